/-
  The plain law of chapter 14, fourth part: both decoders find the same.
-/
import Derived.Test.YtjcebkkmpgafkaaPlainC
import Derived.Test.YtjcebkkmpgafkaaLawA
namespace Go.Proofs.Ytjcebkkmpgafkaa
open Go Go.RowKit Ev

theorem fits_row (i : I) (k : Nat) (ho : i.op = k) (h1 : 1 ≤ k) (hk : k < 48) : fitsI i = fitsB (rowOf k) i := by
  have hrow : rowAt i.op = rowOf k := by unfold rowAt; rw [ho, if_pos (by omega), Int.toNat_natCast]
  unfold fitsI
  rw [hrow, decide_eq_true (p := 1 ≤ i.op) (by omega), decide_eq_true (p := i.op ≤ 47) (by omega)]
  rfl

theorem fits_op (i : I) (h : fitsI i = true) : ∃ k : Nat, i.op = k ∧ 1 ≤ k ∧ k < 48 ∧ fitsB (rowOf k) i = true ∧ rowAt i.op = rowOf k := by
  have h' := h
  unfold fitsI at h'
  simp only [Bool.and_eq_true, decide_eq_true_eq] at h'
  obtain ⟨h1, h2, -⟩ := h'
  refine ⟨i.op.toNat, by omega, by omega, by omega, ?_, ?_⟩
  · rw [← fits_row i i.op.toNat (by omega) (by omega) (by omega)]; exact h
  · unfold rowAt; rw [if_pos ⟨h1, h2⟩]

theorem hit_eq (k w : Nat) (h1 : 1 ≤ k) (hk : k < 48) (hw : w < 4294967296) : hitC k w = hitR k w := by
  unfold hitC hitR
  rw [as_eq k w hk h1 hw, ← fits_eq, fits_row (asR k w) k rfl h1 hk]
  cases hf : fitsB (rowOf k) (asR k w)
  · rfl
  · rw [word_eq (asR k w) k rfl h1 hk hf, Bool.true_and, Bool.true_and, Bool.eq_iff_iff, beq_iff_eq, beq_iff_eq]
    exact Int.ofNat_inj

theorem find_same (p q : Nat → Bool) : ∀ l : List Nat, (∀ x ∈ l, p x = q x) → l.find? p = l.find? q
  | [], _ => rfl
  | a :: l, h => by
    rw [List.find?_cons, List.find?_cons, h a (by simp), find_same p q l fun x hx => h x (by simp [hx])]

theorem dec_fixed : ∀ p ∈ fixedTab, decC p.2 = (decR p.2).map fun k => asR k p.2 := by
  intro p hp
  simp only [fixedTab, List.mem_cons, List.not_mem_nil, or_false] at hp
  rcases hp with rfl | rfl | rfl | rfl <;> kernel_rfl

theorem dec_eq (w : Nat) (hw : w < 4294967296) : decC w = (decR w).map fun k => asR k w := by
  cases hf : fixedTab.find? (fun p => p.2 == w) with
  | some p =>
    have h1 := List.mem_of_find?_eq_some hf
    have h2 := List.find?_some hf
    simp only [beq_iff_eq] at h2
    rw [← h2]
    exact dec_fixed p h1
  | none =>
    unfold decC decR
    rw [hf]
    simp only
    rw [find_same (fun k => decide (1 ≤ k) && hitC k w) (fun k => decide (1 ≤ k) && hitR k w) _ fun x hx => ?_]
    · cases hd : (List.range 48).find? fun k => decide (1 ≤ k) && hitR k w with
      | none => rfl
      | some k =>
        have h1 := List.mem_of_find?_eq_some hd
        have h2 := List.find?_some hd
        simp only [List.mem_range, Bool.and_eq_true, decide_eq_true_eq] at h1 h2
        simp only [Option.map]
        rw [as_eq k w h1 h2.1 hw]
    · simp only [List.mem_range] at hx
      by_cases h1 : 1 ≤ x
      · simp only [hit_eq x w h1 hx hw]
      · simp [h1]

/-- The word of an instruction that fits. -/
def wordI (i : I) : Nat := wdT i (patL i.op.toNat) 32
theorem wordI_lt (i : I) : wordI i < 4294967296 := wdT_lt i _ 32
theorem wordI_eq (i : I) (k : Nat) (ho : i.op = k) : wordI i = wdT i (patL k) 32 := by unfold wordI; rw [ho, Int.toNat_natCast]

theorem enc_fit (i : I) (h : fitsI i = true) : encV i = .tuple #[.int .u32 (wordI i : Nat), .int .i64 0] := by
  obtain ⟨k, ho, h1, hk, hf, hr⟩ := fits_op i h
  unfold encV
  rw [if_pos h, hr, word_eq i k ho h1 hk hf, wordI_eq i k ho]
theorem enc_not (i : I) (h : fitsI i = false) : encV i = .tuple #[.int .u32 0, .int .i64 7] := by
  unfold encV; rw [h]; rfl

theorem cdec_hit (w k : Nat) (hw : w < 4294967296) (h : decR w = some k) : cdecV w = .tuple #[.agg (asR k w).cells, .int .i64 0] := by
  unfold cdecV; rw [dec_eq w hw, h]; rfl
theorem cdec_none (w : Nat) (hw : w < 4294967296) (h : decR w = none) : cdecV w = .tuple #[.agg zeroCells, .int .i64 7] := by
  unfold cdecV; rw [dec_eq w hw, h]; rfl

theorem decR_some (w k : Nat) (h : decR w = some k) : 1 ≤ k ∧ k < 48 ∧ hitR k w = true := by
  have h1 := List.mem_of_find?_eq_some h
  have h2 := List.find?_some h
  simp only [List.mem_range, Bool.and_eq_true, decide_eq_true_eq] at h1 h2
  exact ⟨h2.1, h1, h2.2⟩

/-- An instruction that is decoded fits, and the word is its word. -/
theorem hit_word (w k : Nat) (h : hitR k w = true) : fitsI (asR k w) = true ∧ wordI (asR k w) = w := by
  unfold hitR at h
  simp only [Bool.and_eq_true, beq_iff_eq] at h
  refine ⟨by rw [fits_eq]; exact h.1, ?_⟩
  rw [wordI_eq (asR k w) k rfl]; exact h.2

end Go.Proofs.Ytjcebkkmpgafkaa
