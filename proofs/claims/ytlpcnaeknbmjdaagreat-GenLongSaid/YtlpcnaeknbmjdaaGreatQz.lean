/-
  GenLong: in whatever memory, on every schedule, the call returns true. No conditions.
-/
import Derived.Test.YtlpcnaeknbmjdaaGreatQf
import Derived.Test.YtlpcnaeknbmjdaaGreatRows
import Derived.ProofKit
import Derived.OpenShut
import Derived.HandedShaped

namespace Go.Proofs.YtlpcnaeknbmjdaaGreat.genLong
open Go.ChangeShapes Go.WideShapes Go.ChangeAt Go.RowKit Gn
theorem long_any (W : World) (a b : ActD) (i e f bi be bf : SlP) (n : Int) (ha : Okc (heapB W) a i e f) (hb : Okc (heapB W) b bi be bf) (ga : goodA a) (gb : goodA b) : Calls Tryz.prog 5 #[actV a i.v e.v f.v, actV b bi.v be.v bf.v, .int .i64 n] W fun e w' => e = .returned (.bool true) ∧ Below W.heap.size W w' := by
 refine (glC_met (heapB W) a b i e f bi be bf n ⟨⟨ha, hb⟩, ga, gb⟩ W ⟨fun p hp => (by cases hp), fun p hp => (by cases hp), List.nodup_nil, fun p _ q hq => (by cases hq), fun p hp => heapB_sat p hp, fun p _ q hq => (by cases hq)⟩).mono ?_
 rintro e W' ⟨o, ho, ns, rfl, hpost⟩
 rcases List.mem_singleton.1 ho with rfl
 exact ⟨rfl, hpost.os, hpost.tape, hpost.output, hpost.size, fun k hk => hpost.old k hk fun p hp => (by cases hp)⟩
set_option maxRecDepth 100000 in
theorem lifted (os : Os) (started : os.Started) (H : Type) (enc : TypeId × Value → H) :
  ReturnsInHanded {} Tryz.checked os 5 .any (Rows.genLongSpec.pre6 enc Tryz.prog Tryz.f5 Rows.genLongRow.domain false) (Rows.genLongSpec.post enc Tryz.prog Tryz.f5 false true false false) := by
 refine returnsInHanded_of_change_shaped (C := Tryz.checked) own started (by kernel_rfl) Tryz.func5
  (ChangeSpec.witness6 (enc := enc) (C := Tryz.checked) false ⟨#[], #[(.agg #[.int .i64 0, .int .i64 0, .int .i64 0, .int .i64 0, .slice none 0 0, .slice none 0 0, .slice none 0 0, .int .i64 0, .int .i64 0, .int .i64 0, .int .i64 0]), (.agg #[.int .i64 0, .int .i64 0, .int .i64 0, .int .i64 0, .slice none 0 0, .slice none 0 0, .slice none 0 0, .int .i64 0, .int .i64 0, .int .i64 0, .int .i64 0]), .int .i64 0], []⟩ 8 (by kernel_rfl) (by kernel_rfl) (by kernel_rfl) (by kernel_rfl)) ?_
 intro W base args ds gs before hval0 hW _ hsz0 hsh _
 have hval : ∀ (j : Nat) t v, Tryz.f5.params[j]? = some t → args[j]? = some v → Value.okWide Tryz.prog W .any base t v := hval0
 have hW' := hW
 obtain ⟨p, q, hA0, hV, rfl, hfz, hnd⟩ := hW
 have hA : DataW.TrodAll enc Tryz.prog W 0 (fun _ => true) true Tryz.f5.params.toList args.toList ds p := hA0
 have hsz : (DataW.weightsEach Tryz.prog (Tryz.f5.params.toList ++ Rows.genLongSpec.plain.varTypes Tryz.prog) (ds ++ gs)).all (· ≤ reachBytes) = true := hsz0
 rw [Tryz.params5] at hA hval hsz
 obtain ⟨v, v1, v2, d, d1, d2, p1, p2, p3, rfl, rfl, rfl, h0, h1, h2⟩ := trodAll_three hA
 obtain ⟨rfl, rfl⟩ := trodVars_none hV
 clear hA0 hval0
 obtain ⟨th, rfl, rfl, rfl, w1⟩ := open_int Tryz.underlying3 (hval 2 3 v2 rfl rfl) h2
 have hsm : Small Tryz.prog 46 d := small_each (j := 0) rfl rfl fun x hx => by
  have := List.all_eq_true.1 hsz x hx
  simpa using this
 have hsm1 : Small Tryz.prog 46 d1 := small_each (j := 1) rfl rfl fun x hx => by
  have := List.all_eq_true.1 hsz x hx
  simpa using this
 obtain ⟨cs, rfl, hcs⟩ := okWide_struct Tryz.underlying46 (hval 0 46 v rfl rfl)
 obtain ⟨cs1, rfl, hcs1⟩ := okWide_struct Tryz.underlying46 (hval 1 46 v1 rfl rfl)
 obtain ⟨a, i, e, f, hv, ha, ga⟩ := Gn.open_act (agg_eleven (hcs.trans (by kernel_rfl))) h0 hsm
 obtain ⟨b, bi, be, bf, hv1, hb, gb⟩ := Gn.open_act (agg_eleven (hcs1.trans (by kernel_rfl))) h1 hsm1
 rw [hv] at h0 hW' ⊢
 rw [hv1] at h1 hW' ⊢
 simp only [List.append_nil, List.nil_append] at hW'
 have hlt : ∀ x ∈ p1 ++ p2, x.block < W.heap.size := fun x hx => hW'.lt x hx
 have hlt1 : ∀ x ∈ p1, x.block < W.heap.size := fun x hx => hlt x (List.mem_append_left _ hx)
 have hlt2 : ∀ x ∈ p2, x.block < W.heap.size := fun x hx => hlt x (List.mem_append_right _ hx)
 refine (long_any W a b i e f bi be bf th ha hb ga gb).mono fun en W' ⟨he, hg⟩ => ?_
 subst he
 exact ⟨_, rfl, post_of_below (pa := p1 ++ p2) (pv := []) hW' (fun _ _ _ => (trodAll_cons_mk (shut_bool Tryz.underlying4 _) trodAll_mk0)) (fun sp hsp => ⟨p1, p2 ++ [], again_any (by kernel_rfl) (of_decide_eq_true (by kernel_rfl)) h0 hg hlt1 fun x hx => hsp x (List.mem_append_left _ hx), trodAll_cons_mk (again_any (by kernel_rfl) (of_decide_eq_true (by kernel_rfl)) h1 hg hlt2 fun x hx => hsp x (List.mem_append_right _ hx)) (trodAll_cons_mk (shut_int Tryz.underlying3 w1) trodAll_mk0), by simp⟩) (fun _ _ => rfl) (List.append_nil _).symm
  hg (ok_one (by kernel_rfl) rfl (okWide_bool_mk Tryz.underlying4 _))⟩
theorem over : Rows.genLongRow.holds Tryz.pinned (OpenSpec.ofChange Rows.genLongSpec) :=
 OpenClaim.holds_of_wide 5 Tryz.f5 rfl rfl rfl rfl rfl rfl rfl ⟨rfl, rfl, rfl, rfl, rfl⟩ rfl rfl rfl rfl rfl (by kernel_rfl) Tryz.func5 (by kernel_rfl)
  (of_decide_eq_true (by kernel_rfl)) (by unfold Func.isWrapper; first | (rw [if_pos (by decide +kernel)]; kernel_rfl) | (rw [if_neg (by decide +kernel)]; exact ⟨rfl, rfl⟩))
  (fun os started H enc _ => lifted os started H enc)
theorem proved : Rows.GenLongSaid := over
#print axioms proved
end Go.Proofs.YtlpcnaeknbmjdaaGreat.genLong
