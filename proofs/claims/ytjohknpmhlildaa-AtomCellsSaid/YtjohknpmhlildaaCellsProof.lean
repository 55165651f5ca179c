/-
  AtomCells: in whatever memory, on every schedule, the call returns true. No conditions.
-/
import Derived.Test.YtjohknpmhlildaaRows
import Derived.Test.YtjohknpmhlildaaCellsD
import Derived.Test.YtjohknpmhlildaaFrameG
import Derived.ProofKit
import Derived.OpenShut
namespace Go.Proofs.Ytjohknpmhlildaa.atomCells
open Go.ChangeShapes Go.WideShapes Go.ChangeAt Go.RowKit

set_option maxRecDepth 100000 in
theorem open_ops {H : Type} {enc : TypeId × Value → H} {w : World} {base : Nat} {spare : Nat → Bool} {held : Bool} {r : Reach} {b0 : Nat} {v : Value} {d : DataW H} {p : List MemPlace}
    (hv : Value.okWide Try.prog w r b0 23 v) (h : DataW.Trod enc Try.prog w base spare held 23 v d p) :
    (∃ A c, v = .slice A 0 c) ∨ ∃ (b o c : Nat) (l : List O), 0 < l.length ∧ v = .slice (some ⟨b, o, none⟩) l.length c ∧ (∀ x ∈ l, goodU x.v) ∧ (Ex.Cont.seg o (opCells l)).sat w.heap[b]? ∧ l.length ≤ maxLen :=
  open_rows (sz := 3) Try.underlying23 (by kernel_rfl) (by omega) (fun x : O => goodU x.v) O.cells (fun _ => rfl) (fun cs n D Pl hl ht => by
    match cs, hl with
    | [c0, c1, c2], _ =>
      obtain ⟨n', hf⟩ := cell_field (cs := [c0, c1, c2]) Try.underlying28 (by kernel_rfl) (by rfl) ht
      obtain ⟨y0, h0⟩ := hf 0 _ c0 rfl rfl
      obtain ⟨y1, h1⟩ := hf 1 _ c1 rfl rfl
      obtain ⟨y2, h2⟩ := hf 2 _ c2 rfl rfl
      obtain ⟨x0, rfl, -⟩ := cell_int Try.underlying3 h0 rfl
      obtain ⟨x1, rfl, -⟩ := cell_int Try.underlying3 h1 rfl
      obtain ⟨x2, rfl, hx⟩ := cell_int Try.underlying22 h2 rfl
      have hg : goodU x2 := wf_u64 hx
      exact ⟨⟨x0, x1, x2⟩, hg, rfl⟩) hv h

theorem own : ownKnob Try.prog.godebug = none := by kernel_rfl

set_option maxRecDepth 100000 in
theorem lifted (os : Os) (started : os.Started) (H : Type) (enc : TypeId × Value → H) :
    ReturnsInHanded {} Try.checked os 3 .any (Rows.atomCellsSpec.pre6 enc Try.prog Try.f3 Rows.atomCellsRow.domain false) (Rows.atomCellsSpec.post enc Try.prog Try.f3 false true false false) := by
  refine returnsInHanded_of_change (C := Try.checked) own started (by kernel_rfl) Try.func3
    (ChangeSpec.witness6 (enc := enc) (C := Try.checked) false ⟨#[], #[.int .u64 0, .slice none 0 0], []⟩ 8 (by kernel_rfl) (by kernel_rfl) (by kernel_rfl) (by kernel_rfl)) ?_
  intro W base args ds gs before hval0 hW _ _
  have hval : ∀ (j : Nat) t v, Try.f3.params[j]? = some t → args[j]? = some v → Value.okWide Try.prog W .any base t v := hval0
  have hW' := hW
  obtain ⟨p, q, hA0, hV, rfl, hfz, hnd⟩ := hW
  have hA : DataW.TrodAll enc Try.prog W 0 (fun _ => true) true Try.f3.params.toList args.toList ds p := hA0
  rw [Try.params3] at hA hval
  obtain ⟨v, v2, d, d2, p1, p2, rfl, rfl, rfl, h0, h1⟩ := trodAll_two hA
  obtain ⟨rfl, rfl⟩ := trodVars_none hV
  clear hA0 hval0
  simp only [List.append_nil] at hW'
  obtain ⟨n, rfl, rfl, rfl, w0⟩ := open_int Try.underlying22 (hval 0 22 v rfl rfl) h0
  have hlt : ∀ x ∈ p2, x.block < W.heap.size := fun x hx => hW'.lt x (List.mem_append_right _ hx)
  have key : Calls Try.prog 3 #[.int .u64 n, v2] W fun e W' => e = .returned (.bool true) ∧ Below W.heap.size W W' := by
    rcases open_ops (hval 1 23 v2 rfl rfl) h1 with ⟨A, c, rfl⟩ | ⟨b, o, c, l, hpos, rfl, hfit, hs, hn⟩
    · exact cells_none n A c W
    · exact cells_call b o c n l hn (wf_u64 w0) hfit hs
  refine key.mono fun e W' ⟨he, hg⟩ => ?_
  subst he
  exact ⟨_, rfl, post_of_below (pa := p2) (pv := []) hW' (fun _ _ _ => (trodAll_cons_mk (shut_bool Try.underlying4 _) trodAll_mk0)) (fun sp hsp => trodAll_cons_mk (shut_int Try.underlying22 w0) ⟨p2, [], again_any (by kernel_rfl) (of_decide_eq_true (by kernel_rfl)) h1 hg hlt hsp, trodAll_mk0, (List.append_nil _).symm⟩) (fun _ _ => rfl) (List.append_nil _).symm
    hg (ok_one (by kernel_rfl) rfl (okWide_bool_mk Try.underlying4 _))⟩

theorem over : Rows.atomCellsRow.holds Try.pinned (OpenSpec.ofChange Rows.atomCellsSpec) :=
  OpenClaim.holds_of_wide 3 Try.f3 rfl rfl rfl rfl rfl rfl rfl ⟨rfl, rfl, rfl, rfl, rfl⟩ rfl rfl rfl rfl rfl (by kernel_rfl) Try.func3 (by kernel_rfl)
    (of_decide_eq_true (by kernel_rfl)) (by unfold Func.isWrapper; first | (rw [if_pos (by decide +kernel)]; kernel_rfl) | (rw [if_neg (by decide +kernel)]; exact ⟨rfl, rfl⟩))
    (fun os started H enc _ => lifted os started H enc)

/-- The statement. -/
theorem proved : Rows.AtomCellsSaid := over
#print axioms proved
end Go.Proofs.Ytjohknpmhlildaa.atomCells
