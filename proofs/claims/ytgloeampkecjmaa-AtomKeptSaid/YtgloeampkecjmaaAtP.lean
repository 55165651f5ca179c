/-
  AtomKept: in whatever memory, on every schedule, the call returns true. No conditions.
-/
import Derived.Test.YtgloeampkecjmaaRows
import Derived.Test.YtgloeampkecjmaaAtKA
import Derived.Test.YtgloeampkecjmaaAtKB
import Derived.Test.YtgloeampkecjmaaAtKC
import Derived.Test.YtgloeampkecjmaaAtKD
import Derived.Test.YtgloeampkecjmaaAtKE
import Derived.Test.YtgloeampkecjmaaAtKF
import Derived.Test.YtgloeampkecjmaaAtKG
import Derived.Test.YtgloeampkecjmaaAtKH
import Derived.Test.YtgloeampkecjmaaPost
import Derived.ProofKit
import Derived.OpenShut
namespace Go.Proofs.Ytgloeampkecjmaa.atomKept
open Go.ChangeShapes Go.WideShapes Go.ChangeAt Go.RowKit

theorem kept_any (v n : Int) (W : World) : Calls Try.prog fKept #[.int .u64 v, .int .i64 n] W fun e w' => e = .returned (.bool true) ∧ Below W.heap.size W w' := by
  have h1 : -16 < n.tmod 16 ∧ n.tmod 16 < 16 := ⟨by have := Int.lt_tmod_of_pos n (b := 16) (by decide); omega, by have := Int.tmod_lt_of_pos n (b := 16) (by decide); omega⟩
  have h : n.tmod 16 = -15 ∨ n.tmod 16 = -14 ∨ n.tmod 16 = -13 ∨ n.tmod 16 = -12 ∨ n.tmod 16 = -11 ∨ n.tmod 16 = -10 ∨ n.tmod 16 = -9 ∨ n.tmod 16 = -8 ∨ n.tmod 16 = -7 ∨ n.tmod 16 = -6 ∨ n.tmod 16 = -5 ∨ n.tmod 16 = -4 ∨ n.tmod 16 = -3 ∨ n.tmod 16 = -2 ∨ n.tmod 16 = -1 ∨ n.tmod 16 = 0 ∨ n.tmod 16 = 1 ∨ n.tmod 16 = 2 ∨ n.tmod 16 = 3 ∨ n.tmod 16 = 4 ∨ n.tmod 16 = 5 ∨ n.tmod 16 = 6 ∨ n.tmod 16 = 7 ∨ n.tmod 16 = 8 ∨ n.tmod 16 = 9 ∨ n.tmod 16 = 10 ∨ n.tmod 16 = 11 ∨ n.tmod 16 = 12 ∨ n.tmod 16 = 13 ∨ n.tmod 16 = 14 ∨ n.tmod 16 = 15 := by
    generalize n.tmod 16 = r at *
    omega
  rcases h with h | h | h | h | h | h | h | h | h | h | h | h | h | h | h | h | h | h | h | h | h | h | h | h | h | h | h | h | h | h | h
  · exact kept_m15 v n ⟨n, rfl, by omega, by decide, by decide⟩ W
  · exact kept_m14 v n ⟨n, rfl, by omega, by decide, by decide⟩ W
  · exact kept_m13 v n ⟨n, rfl, by omega, by decide, by decide⟩ W
  · exact kept_m12 v n ⟨n, rfl, by omega, by decide, by decide⟩ W
  · exact kept_m11 v n ⟨n, rfl, by omega, by decide, by decide⟩ W
  · exact kept_m10 v n ⟨n, rfl, by omega, by decide, by decide⟩ W
  · exact kept_m9 v n ⟨n, rfl, by omega, by decide, by decide⟩ W
  · exact kept_m8 v n ⟨n, rfl, by omega, by decide, by decide⟩ W
  · exact kept_m7 v n ⟨n, rfl, by omega, by decide, by decide⟩ W
  · exact kept_m6 v n ⟨n, rfl, by omega, by decide, by decide⟩ W
  · exact kept_m5 v n ⟨n, rfl, by omega, by decide, by decide⟩ W
  · exact kept_m4 v n ⟨n, rfl, by omega, by decide, by decide⟩ W
  · exact kept_m3 v n ⟨n, rfl, by omega, by decide, by decide⟩ W
  · exact kept_m2 v n ⟨n, rfl, by omega, by decide, by decide⟩ W
  · exact kept_m1 v n ⟨n, rfl, by omega, by decide, by decide⟩ W
  · exact kept_p0 v n ⟨n, rfl, by omega, by decide, by decide⟩ W
  · exact kept_p1 v n ⟨n, rfl, by omega, by decide, by decide⟩ W
  · exact kept_p2 v n ⟨n, rfl, by omega, by decide, by decide⟩ W
  · exact kept_p3 v n ⟨n, rfl, by omega, by decide, by decide⟩ W
  · exact kept_p4 v n ⟨n, rfl, by omega, by decide, by decide⟩ W
  · exact kept_p5 v n ⟨n, rfl, by omega, by decide, by decide⟩ W
  · exact kept_p6 v n ⟨n, rfl, by omega, by decide, by decide⟩ W
  · exact kept_p7 v n ⟨n, rfl, by omega, by decide, by decide⟩ W
  · exact kept_p8 v n ⟨n, rfl, by omega, by decide, by decide⟩ W
  · exact kept_p9 v n ⟨n, rfl, by omega, by decide, by decide⟩ W
  · exact kept_p10 v n ⟨n, rfl, by omega, by decide, by decide⟩ W
  · exact kept_p11 v n ⟨n, rfl, by omega, by decide, by decide⟩ W
  · exact kept_p12 v n ⟨n, rfl, by omega, by decide, by decide⟩ W
  · exact kept_p13 v n ⟨n, rfl, by omega, by decide, by decide⟩ W
  · exact kept_p14 v n ⟨n, rfl, by omega, by decide, by decide⟩ W
  · exact kept_p15 v n ⟨n, rfl, by omega, by decide, by decide⟩ W

theorem own : ownKnob Try.prog.godebug = none := by kernel_rfl

set_option maxRecDepth 100000 in
theorem lifted (os : Os) (started : os.Started) (H : Type) (enc : TypeId × Value → H) :
    ReturnsInHanded {} Try.checked os 3 .any (Rows.atomKeptSpec.pre6 enc Try.prog Try.f3 Rows.atomKeptRow.domain false) (Rows.atomKeptSpec.post enc Try.prog Try.f3 false true false false) := by
  refine returnsInHanded_of_change (C := Try.checked) own started (by kernel_rfl) Try.func3
    (ChangeSpec.witness6 (enc := enc) (C := Try.checked) false ⟨#[], #[.int .u64 0, .int .i64 0], []⟩ 8 (by kernel_rfl) (by kernel_rfl) (by kernel_rfl) (by kernel_rfl)) ?_
  intro W base args ds gs before hval0 hW _ _
  have hval : ∀ (j : Nat) t v, Try.f3.params[j]? = some t → args[j]? = some v → Value.okWide Try.prog W .any base t v := hval0
  have hW' := hW
  obtain ⟨p, q, hA0, hV, rfl, hfz, hnd⟩ := hW
  have hA : DataW.TrodAll enc Try.prog W 0 (fun _ => true) true Try.f3.params.toList args.toList ds p := hA0
  rw [Try.params3] at hA hval
  obtain ⟨v, v2, d, d2, p1, p2, rfl, rfl, rfl, h0, h1⟩ := trodAll_two hA
  obtain ⟨rfl, rfl⟩ := trodVars_none hV
  clear hA0 hval0
  simp only [List.append_nil] at hW'
  obtain ⟨n, rfl, rfl, rfl, w0⟩ := open_int Try.underlying22 (hval 0 22 v rfl rfl) h0
  obtain ⟨m, rfl, rfl, rfl, w1⟩ := open_int Try.underlying3 (hval 1 3 v2 rfl rfl) h1
  refine (kept_any n m W).mono fun e W' ⟨he, hg⟩ => ?_
  subst he
  exact ⟨_, rfl, post_of_below (pa := []) (pv := []) hW' (fun _ _ _ => (trodAll_cons_mk (shut_bool Try.underlying4 _) trodAll_mk0)) (fun sp _ => trodAll_cons_mk (shut_int Try.underlying22 w0) (trodAll_cons_mk (shut_int Try.underlying3 w1) trodAll_mk0)) (fun _ _ => rfl) rfl
    hg (ok_one (by kernel_rfl) rfl (okWide_bool_mk Try.underlying4 _))⟩

theorem over : Rows.atomKeptRow.holds Try.pinned (OpenSpec.ofChange Rows.atomKeptSpec) :=
  OpenClaim.holds_of_wide 3 Try.f3 rfl rfl rfl rfl rfl rfl rfl ⟨rfl, rfl, rfl, rfl, rfl⟩ rfl rfl rfl rfl rfl (by kernel_rfl) Try.func3 (by kernel_rfl)
    (of_decide_eq_true (by kernel_rfl)) (by unfold Func.isWrapper; first | (rw [if_pos (by decide +kernel)]; kernel_rfl) | (rw [if_neg (by decide +kernel)]; exact ⟨rfl, rfl⟩))
    (fun os started H enc _ => lifted os started H enc)

/-- The statement. -/
theorem proved : Rows.AtomKeptSaid := over
#print axioms proved
end Go.Proofs.Ytgloeampkecjmaa.atomKept
