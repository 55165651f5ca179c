/-
  The frame of a row of nodes.
-/
import Derived.Test.YtgaejhhipnpopaaSyH
import Derived.Test.YtgaejhhipnpopaaLwX
namespace Go.Proofs.Ytgaejhhipnpopaa
open Go Go.Joins Go.ChangeShapes Go.WideShapes Go.RowKit Go.Deep
open Sy (Cont)

theorem bytesN : Try.prog.bytesOf 33 = 32 := by kernel_rfl

set_option maxRecDepth 100000 in
theorem open_nodes {H : Type} {enc : TypeId × Value → H} {w : World} {base : Nat} {spare : Nat → Bool} {held : Bool} {r : Reach} {b0 : Nat} {v : Value} {d : DataW H} {p : List MemPlace}
    (hv : Value.okWide Try.prog w r b0 35 v) (h : DataW.Trod enc Try.prog w base spare held 35 v d p) :
    (∃ A c, v = .slice A 0 c) ∨ ∃ (b o c : Nat) (l : List Nd), 0 < l.length ∧ v = .slice (some ⟨b, o, none⟩) l.length c ∧ goodN l ∧ (Cont.seg o (ndCells l)).sat w.heap[b]? ∧ l.length ≤ maxLen ∧ ∃ D E, d = .slice D E ∧ D.length = l.length :=
  open_rows (sz := 4) Try.underlying35 (by kernel_rfl) (by omega) (fun x : Nd => goodU x.val) Nd.cells (fun _ => rfl) (fun cs n D Pl hl ht => by
    match cs, hl with
    | [c0, c1, c2, c3], _ =>
      obtain ⟨n', hf⟩ := cell_field (cs := [c0, c1, c2, c3]) Try.underlying33 (by kernel_rfl) (by rfl) ht
      obtain ⟨y0, h0⟩ := hf 0 _ c0 rfl rfl
      obtain ⟨y1, h1⟩ := hf 1 _ c1 rfl rfl
      obtain ⟨y2, h2⟩ := hf 2 _ c2 rfl rfl
      obtain ⟨y3, h3⟩ := hf 3 _ c3 rfl rfl
      obtain ⟨x0, rfl, -⟩ := cell_int Try.underlying3 h0 rfl
      obtain ⟨x1, rfl, hx⟩ := cell_int Try.underlying27 h1 rfl
      obtain ⟨x2, rfl, -⟩ := cell_int Try.underlying3 h2 rfl
      obtain ⟨x3, rfl, -⟩ := cell_int Try.underlying3 h3 rfl
      have hg : goodU x1 := wf_u64 hx
      exact ⟨⟨x0, x1, x2, x3⟩, hg, rfl⟩) hv h

end Go.Proofs.Ytgaejhhipnpopaa
