/-
  LowerNumbers: the plain law: what puts v into register r, when run, leaves v there.
-/
import Derived.Test.YtgaejhhipnpopaaLwN
namespace Go.Proofs.Ytgaejhhipnpopaa
open Go Go.RowKit

theorem land_low (n C s : Nat) (hn : n < 2 ^ s) (hC : C % 2 ^ s = 2 ^ s - 1) : n &&& C = n := by
  apply Nat.eq_of_testBit_eq
  intro i
  rw [Nat.testBit_and]
  by_cases hi : i < s
  · have h1 : (C % 2 ^ s).testBit i = true := by rw [hC]; simp [hi]
    rw [Nat.testBit_mod_two_pow] at h1
    simp [hi] at h1
    simp [h1]
  · have : n.testBit i = false := Nat.testBit_lt_two_pow (Nat.lt_of_lt_of_le hn (Nat.pow_le_pow_right (by decide) (by omega)))
    simp [this]

theorem wrap_id {x : Int} (h0 : 0 ≤ x) (h1 : x < 18446744073709551616) : IntKind.u64.wrap x = x := by
  simp [IntKind.wrap, IntKind.signed, IntKind.bits]
  omega

theorem resid_id {x : Nat} (h1 : x < 18446744073709551616) : Ex.residQ (Ex.kMod .u64) (x : Int) = x := by
  have h := Ex.residQ_eq (Ex.kMod .u64) (Ex.kMod_pos .u64) x
  have e : Ex.kMod .u64 = 18446744073709551616 := rfl
  rw [e] at h ⊢
  omega

theorem shl16 {x : Int} (h0 : 0 ≤ x) (h1 : x < 65536) (s : Nat) (hs : s ≤ 48) : Ex.shlQ .u64 (Ex.wrapQ .u64 x) s = x * 2 ^ s := by
  rw [Ex.wrapQ_eq, Ex.shlQ_eq, wrap_id h0 (by omega), Nat.min_eq_left (by show s ≤ 64; omega)]
  have : (2 : Int) ^ s ≤ 2 ^ 48 := by exact_mod_cast Nat.pow_le_pow_right (n := 2) (by decide) hs
  have hp : (0 : Int) < 2 ^ s := by exact_mod_cast Nat.two_pow_pos s
  refine wrap_id (Int.mul_nonneg h0 (Int.le_of_lt hp)) ?_
  calc x * 2 ^ s ≤ 65535 * 2 ^ s := Int.mul_le_mul_of_nonneg_right (by omega) (Int.le_of_lt hp)
    _ ≤ 65535 * 2 ^ 48 := Int.mul_le_mul_of_nonneg_left this (by decide)
    _ < _ := by decide

theorem movk_val {c x : Int} (s : Nat) (hs : s = 16 ∨ s = 32 ∨ s = 48) (hc0 : 0 ≤ c) (hc1 : c < 2 ^ s) (h0 : 0 ≤ x) (h1 : x < 65536) :
    Ex.orQ .u64 (Ex.andNotQ .u64 c (Ex.shlQ .u64 65535 s)) (Ex.shlQ .u64 (Ex.wrapQ .u64 x) s) = c + x * 2 ^ s := by
  obtain ⟨n, rfl⟩ : ∃ n : Nat, c = n := ⟨c.toNat, by omega⟩
  obtain ⟨m, rfl⟩ : ∃ m : Nat, x = m := ⟨x.toNat, by omega⟩
  have hn : n < 2 ^ s := by exact_mod_cast hc1
  have hm : m < 65536 := by omega
  rw [shl16 h0 h1 s (by omega)]
  have e1 : Ex.andNotQ .u64 (n : Int) (Ex.shlQ .u64 65535 s) = n := by
    have hn' : n < 18446744073709551616 := by
      rcases hs with rfl | rfl | rfl <;> omega
    unfold Ex.andNotQ
    rw [resid_id hn', Ex.wrapQ_eq]
    have : Nat.land n (Nat.sub (Nat.sub (Ex.kMod .u64) 1) (Ex.residQ (Ex.kMod .u64) (Ex.shlQ .u64 65535 s))) = n := by
      refine land_low _ _ s hn ?_
      rcases hs with rfl | rfl | rfl <;> decide
    rw [this]
    exact wrap_id (by exact Int.natCast_nonneg n) (by show (n : Int) < _; omega)
  rw [e1]
  have hb : m * 2 ^ s + n < 18446744073709551616 := by
    rcases hs with rfl | rfl | rfl <;> omega
  have e2 : ((m : Int) * 2 ^ s) = ((m * 2 ^ s : Nat) : Int) := by push_cast; rfl
  rw [e2]
  unfold Ex.orQ
  rw [resid_id (by omega), resid_id (by omega), Ex.wrapQ_eq]
  have e3 : Nat.lor n (m * 2 ^ s) = m * 2 ^ s + n := by
    have := Nat.two_pow_add_eq_or_of_lt hn m
    rw [Nat.mul_comm m, this]
    exact Nat.or_comm _ _
  rw [e3]
  refine (wrap_id (Int.natCast_nonneg _) (by show ((m * 2 ^ s + n : Nat) : Int) < _; omega)).trans ?_
  show ((m * 2 ^ s + n : Nat) : Int) = _
  push_cast
  omega

def holdR (r : Int) (xs : List Int) (c : Int) : Prop := xs.length = 34 ∧ xs.getD r.toNat 0 = c

theorem put_hold {r : Int} (h0 : 0 ≤ r) (h1 : r ≤ 30) (xs : List Int) (hl : xs.length = 34) (c : Int) : holdR r ((xs.set 31 0).set r.toNat c) c := by
  refine ⟨by simp [hl], ?_⟩
  have : r.toNat < 34 := by omega
  simp [List.getD_eq_getElem?_getD, hl, this]

theorem movz_run {r : Int} (h0 : 0 ≤ r) (h1 : r ≤ 30) (xs : List Int) (hl : xs.length = 34) {x : Int} (x0 : 0 ≤ x) (x1 : x < 65536) (l : List I) :
    ∃ zs, holdR r zs x ∧ runL xs (⟨1, r, 0, 0, x, 0⟩ :: l) = runL zs l := by
  refine ⟨_, put_hold h0 h1 xs hl x, ?_⟩
  have e : Ex.shlQ .u64 (Ex.wrapQ .u64 x) (shR 0) = x := by
    have : shR 0 = 0 := by decide
    rw [this, shl16 x0 x1 0 (by decide)]; simp
  have a : ¬ r < 0 := by omega
  have b : ¬ 30 < r := by omega
  simp [runL, stepR, a, b, e]

theorem movk_run {r : Int} (h0 : 0 ≤ r) (h1 : r ≤ 30) (xs : List Int) {c x i : Int} (s : Nat) (hi : shR i = s) (hs : s = 16 ∨ s = 32 ∨ s = 48) (hx : holdR r xs c) (hc0 : 0 ≤ c) (hc1 : c < 2 ^ s) (x0 : 0 ≤ x) (x1 : x < 65536) (l : List I) :
    ∃ zs, holdR r zs (c + x * 2 ^ s) ∧ runL xs (movk r x i ++ l) = runL zs l := by
  by_cases hz : x = 0
  · subst hz
    exact ⟨xs, by simpa using hx, by simp [movk]⟩
  · refine ⟨_, put_hold h0 h1 xs hx.1 _, ?_⟩
    have e := movk_val s hs hc0 hc1 x0 x1
    have g : (xs.set 31 0).getD r.toNat 0 = c := by
      rw [← hx.2]
      have : (31 : Nat) ≠ r.toNat := by omega
      simp [List.getD_eq_getElem?_getD, List.getElem?_set_ne this]
    have a : ¬ r < 0 := by omega
    have b : ¬ 30 < r := by omega
    simp only [movk, if_neg hz, List.cons_append, List.nil_append, runL, stepR, a, b, if_false, hi, g, e]
    simp

theorem numL_run {r v : Int} (h0 : 0 ≤ r) (h1 : r ≤ 30) (hv : goodU v) : ∃ zs, holdR r zs v ∧ runL zerosR (numL r v) = some zs := by
  unfold goodU at hv
  obtain ⟨z0, g0, e0⟩ := movz_run h0 h1 zerosR rfl (x := v % 65536) (by omega) (by omega) (movk r (v / 65536 % 65536) 1 ++ (movk r (v / 4294967296 % 65536) 2 ++ movk r (v / 281474976710656 % 65536) 3))
  obtain ⟨z1, g1, e1⟩ := movk_run h0 h1 z0 (x := v / 65536 % 65536) (i := 1) 16 (by decide) (.inl rfl) g0 (by omega) (by omega) (by omega) (by omega) (movk r (v / 4294967296 % 65536) 2 ++ movk r (v / 281474976710656 % 65536) 3)
  obtain ⟨z2, g2, e2⟩ := movk_run h0 h1 z1 (x := v / 4294967296 % 65536) (i := 2) 32 (by decide) (.inr (.inl rfl)) g1 (by omega) (by omega) (by omega) (by omega) (movk r (v / 281474976710656 % 65536) 3)
  obtain ⟨z3, g3, e3⟩ := movk_run h0 h1 z2 (x := v / 281474976710656 % 65536) (i := 3) 48 (by decide) (.inr (.inr rfl)) g2 (by omega) (by omega) (by omega) (by omega) []
  rw [List.append_nil] at e3
  refine ⟨z3, ?_, ?_⟩
  · have : v % 65536 + v / 65536 % 65536 * 2 ^ 16 + v / 4294967296 % 65536 * 2 ^ 32 + v / 281474976710656 % 65536 * 2 ^ 48 = v := by omega
    rw [this] at g3
    exact g3
  · unfold numL
    rw [e0, e1, e2, e3]; rfl

theorem leftR_holds {r v : Int} (h0 : 0 ≤ r) (h1 : r ≤ 30) (hv : goodU v) : runL zerosR (numL r v) = some (leftR r v) ∧ holdR r (leftR r v) v := by
  obtain ⟨zs, g, e⟩ := numL_run h0 h1 hv
  have : leftR r v = zs := by unfold leftR; rw [e]
  rw [this]
  exact ⟨e, g⟩

theorem numL_length (r v : Int) : (numL r v).length ≤ 4 := by
  unfold numL movk
  split <;> split <;> split <;> simp

end Go.Proofs.Ytgaejhhipnpopaa
