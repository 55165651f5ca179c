/-
  What the laws' walks ask of their boxes; Ref, Api.
-/
import Derived.Test.YtjcebkkmpgafkaaPlainE
namespace Go.Proofs.Ytjcebkkmpgafkaa
open Go Go.RowKit Ev

/-- A box of six cells, as it was laid. -/
def Boxed (b : Nat) (c0 c1 c2 c3 c4 c5 : Value) (w : World) : Prop :=
  w.cell? ⟨b, 0, none⟩ = some c0 ∧ w.cell? ⟨b, 1, none⟩ = some c1 ∧ w.cell? ⟨b, 2, none⟩ = some c2 ∧ w.cell? ⟨b, 3, none⟩ = some c3 ∧ w.cell? ⟨b, 4, none⟩ = some c4 ∧ w.cell? ⟨b, 5, none⟩ = some c5 ∧
  w.frozen? ⟨b, 0, none⟩ = false ∧ w.frozen? ⟨b, 1, none⟩ = false ∧ w.frozen? ⟨b, 2, none⟩ = false ∧ w.frozen? ⟨b, 3, none⟩ = false ∧ w.frozen? ⟨b, 4, none⟩ = false ∧ w.frozen? ⟨b, 5, none⟩ = false ∧ b < w.heap.size

theorem boxed_keep {b : Nat} {c0 c1 c2 c3 c4 c5 : Value} {W W' : World} {B : Nat} (a : Boxed b c0 c1 c2 c3 c4 c5 W) (h : Below B W W') (hB : b < B) : Boxed b c0 c1 c2 c3 c4 c5 W' := by
  obtain ⟨z0, z1, z2, z3, z4, z5, y0, y1, y2, y3, y4, y5, hl⟩ := a
  have hc := fun o => h.cell (p := ⟨b, o, none⟩) hB
  have hf := fun o => h.frozen (p := ⟨b, o, none⟩) hB
  unfold Boxed
  simp only [hc, hf]
  exact ⟨z0, z1, z2, z3, z4, z5, y0, y1, y2, y3, y4, y5, Nat.lt_of_lt_of_le hl h.size⟩

theorem boxed_same {b : Nat} {c0 c1 c2 c3 c4 c5 : Value} {W W' : World} (a : Boxed b c0 c1 c2 c3 c4 c5 W) (h : Below W.heap.size W W') : Boxed b c0 c1 c2 c3 c4 c5 W' := boxed_keep a h a.2.2.2.2.2.2.2.2.2.2.2.2
theorem boxed_over {b : Nat} {c0 c1 c2 c3 c4 c5 : Value} {W W' : World} {o : Obj} (a : Boxed b c0 c1 c2 c3 c4 c5 W) (h : Below (W.alloc o).heap.size (W.alloc o) W') : Boxed b c0 c1 c2 c3 c4 c5 W' := by
  have hl := a.2.2.2.2.2.2.2.2.2.2.2.2
  have e : (W.alloc o).heap.size = W.heap.size + 1 := by simp
  exact boxed_keep (boxed_keep a ((Below.refl W.heap.size W).alloc (Nat.le_refl _) o) hl) h (by omega)
theorem boxed_new {c0 c1 c2 c3 c4 c5 : Value} {t : TypeId} {W W' : World} (h : Below (W.alloc (.cells #[c0, c1, c2, c3, c4, c5] t)).heap.size (W.alloc (.cells #[c0, c1, c2, c3, c4, c5] t)) W') : Boxed W.heap.size c0 c1 c2 c3 c4 c5 W' := by
  have e : (W.alloc (.cells #[c0, c1, c2, c3, c4, c5] t)).heap.size = W.heap.size + 1 := by simp
  have hs := h.size
  rw [e] at h hs
  obtain ⟨z0, z1, z2, z3, z4, z5, y0, y1, y2, y3, y4, y5⟩ := six_at h
  exact ⟨z0, z1, z2, z3, z4, z5, y0, y1, y2, y3, y4, y5, by omega⟩
theorem below_over {B : Nat} {W0 W W' : World} {o : Obj} (a : Below B W0 W) (hB : B ≤ W.heap.size) (h : Below (W.alloc o).heap.size (W.alloc o) W') : Below B W0 W' :=
  (a.alloc hB o).trans (h.mono (by simp; omega))

theorem boxed_at {b : Nat} {c0 c1 c2 c3 c4 c5 : Value} {W V W' : World} (a : Boxed b c0 c1 c2 c3 c4 c5 W) (h : Below V.heap.size V W') (e : W.heap = V.heap) : Boxed b c0 c1 c2 c3 c4 c5 W' := by
  have a' : Boxed b c0 c1 c2 c3 c4 c5 V := by
    unfold Boxed World.cell? World.frozen? at a ⊢
    rw [← e]; exact a
  exact boxed_same a' h
theorem below_at {B : Nat} {W0 W V W' : World} (a : Below B W0 W) (h : Below V.heap.size V W') (hB : B ≤ V.heap.size) (h1 : W.heap = V.heap) (h2 : W.os = V.os) (h3 : W.tape = V.tape) (h4 : W.output = V.output) : Below B W0 W' := by
  have a' : Below B W0 V := ⟨h2.symm.trans a.os, h3.symm.trans a.tape, h4.symm.trans a.output, by rw [← h1]; exact a.size, fun k hk => by rw [← h1]; exact a.block k hk⟩
  exact below_chain a' h hB

theorem ref_gives (i : I) : Gives Try.prog 21 #[.agg i.cells] (.agg i.cells) 2 :=
  gives_of_out noSpec_holds mixed 100 fun _ => ⟨by kernel_rfl, by kernel_rfl, by kernel_rfl⟩
theorem api_gives (i : I) : Gives Try.prog 26 #[.agg i.cells] (.agg i.cells) 2 :=
  gives_of_out noSpec_holds mixed 100 fun _ => ⟨by kernel_rfl, by kernel_rfl, by kernel_rfl⟩
theorem ref_call (i : I) (W : World) : Calls Try.prog 21 #[.agg i.cells] W fun e W' => e = .returned (.agg i.cells) ∧ Below W.heap.size W W' :=
  (ref_gives i W).mono fun _ _ h => ⟨h.1, h.2.1⟩
theorem api_call (i : I) (W : World) : Calls Try.prog 26 #[.agg i.cells] W fun e W' => e = .returned (.agg i.cells) ∧ Below W.heap.size W W' :=
  (api_gives i W).mono fun _ _ h => ⟨h.1, h.2.1⟩

/-- The reference's word of an instruction that fits. -/
theorem rword_call (i : I) (h : fitsI i = true) (W : World) : Calls Try.prog 24 #[.agg i.cells] W fun e W' => e = .returned (.int .u32 (wordI i : Nat)) ∧ Below W.heap.size W W' := by
  obtain ⟨k, ho, h1, hk, -, -⟩ := fits_op i h
  rw [wordI_eq i k ho]
  exact word_any i k ho h1 hk W
theorem rfitsI_call (i : I) (h : i.fit) (W : World) : Calls Try.prog 23 #[.agg i.cells] W fun e W' => e = .returned (.bool (fitsI i)) ∧ Below W.heap.size W W' := by
  rw [fits_eq]; exact rfits_call i h W

end Go.Proofs.Ytjcebkkmpgafkaa
