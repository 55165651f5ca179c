/-
  The plain law of chapter 14, second part: what is read out of a word.
-/
import Derived.Test.YtjcebkkmpgafkaaPlainA
namespace Go.Proofs.Ytjcebkkmpgafkaa
open Go Go.RowKit Ev

theorem rd_none (l : List Nat) (w c a : Nat) (h : ∀ j, j < a → l.getD j 0 ≠ c) : ∀ m, m ≤ a → (rd l w c m).1 = 0
  | 0, _ => rfl
  | m + 1, hm => by
    simp only [rd]
    rw [if_neg (h m (by omega))]
    exact rd_none l w c a h m (by omega)

theorem bit_step (y t : Nat) : y / 2 % 2 ^ t * 2 + y % 2 = y % 2 ^ (t + 1) := by
  rw [Nat.pow_succ, Nat.mul_comm (2 ^ t) 2, Nat.mod_mul]
  omega

theorem rd_in (l : List Nat) (w c a pos width : Nat) (ha : a + width + pos = 32) (h0 : ∀ j, j < a → l.getD j 0 ≠ c) (h1 : ∀ j, a ≤ j → j < a + width → l.getD j 0 = c) : ∀ t, t ≤ width → (rd l w c (a + t)).1 = w / 2 ^ (pos + width - t) % 2 ^ t
  | 0, _ => by rw [Nat.add_zero, rd_none l w c a h0 a (Nat.le_refl _)]; simp [Nat.mod_one]
  | t + 1, ht => by
    have ih := rd_in l w c a pos width ha h0 h1 t (by omega)
    show (rd l w c (a + t + 1)).1 = _
    simp only [rd]
    rw [if_pos (h1 (a + t) (by omega) (by omega))]
    simp only
    rw [ih, show 31 - (a + t) = pos + width - (t + 1) by omega, show pos + width - t = pos + width - (t + 1) + 1 by omega]
    rw [Nat.pow_succ 2 (pos + width - (t + 1)), ← Nat.div_div_eq_div_mul]
    exact bit_step _ t

theorem rd_out (l : List Nat) (w c b : Nat) (h2 : ∀ j, b ≤ j → j < 32 → l.getD j 0 ≠ c) : ∀ s, b + s ≤ 32 → (rd l w c (b + s)).1 = (rd l w c b).1
  | 0, _ => rfl
  | s + 1, hs => by
    show (rd l w c (b + s + 1)).1 = _
    simp only [rd]
    rw [if_neg (h2 (b + s) (by omega) (by omega))]
    exact rd_out l w c b h2 s (by omega)

/-- A letter stands just at the bits of a field. -/
def blockOk (l : List Nat) (c pos width : Nat) : Bool :=
  decide (pos + width ≤ 32) && (List.range 32).all fun j => decide (l.getD j 0 = c ↔ (32 - pos - width ≤ j ∧ j < 32 - pos))

theorem rd_block (l : List Nat) (w c pos width : Nat) (h : blockOk l c pos width = true) : (rd l w c 32).1 = w / 2 ^ pos % 2 ^ width := by
  simp only [blockOk, Bool.and_eq_true, decide_eq_true_eq, List.all_eq_true, List.mem_range] at h
  obtain ⟨hp, h⟩ := h
  have e1 := rd_in l w c (32 - pos - width) pos width (by omega) (fun j hj hc => by have := (h j (by omega)).1 hc; omega) (fun j h1 h2 => (h j (by omega)).2 ⟨h1, by omega⟩) width (Nat.le_refl _)
  have e2 := rd_out l w c (32 - pos) (fun j h1 h2 hc => by have := (h j (by omega)).1 hc; omega) pos (by omega)
  rw [show 32 - pos + pos = 32 by omega] at e2
  rw [show 32 - pos - width + width = 32 - pos by omega] at e1
  rw [e2, e1]
  simp

/-- A field that is read as the reference reads a letter. -/
def okF (l : List Nat) (c : Nat) (f : Fld) : Bool := blockOk l c f.pos f.width && (f.width == 0 || (decide (f.lo = 0) && decide (f.step = 1) && !f.turned))

theorem read_ok (k c w : Nat) (f : Fld) (h : okF (patL k) c f = true) : readN f w = rv k c w := by
  simp only [okF, Bool.and_eq_true, Bool.or_eq_true, beq_iff_eq, decide_eq_true_eq, Bool.not_eq_true'] at h
  obtain ⟨hb, h⟩ := h
  unfold rv
  rw [rd_block _ w c _ _ hb]
  rcases h with h | ⟨⟨h1, h2⟩, h3⟩
  · simp [readN, h, Nat.mod_one]
  · unfold readN
    by_cases hw : f.width = 0
    · simp [hw, Nat.mod_one]
    · simp [hw, h1, h2, h3]

theorem tabR : ∀ k : Nat, k < 48 → 1 ≤ k → okF (patL k) 100 (rowOf k).f0 = true ∧ okF (patL k) 110 (rowOf k).f1 = true ∧ okF (patL k) 109 (rowOf k).f2 = true ∧ (k ≠ 17 → okF (patL k) 99 (rowOf k).f4 = true) ∧ (k ≠ 14 → ¬ (18 ≤ k ∧ k ≤ 23) → okF (patL k) 105 (rowOf k).f3 = true) := by decide +kernel
theorem tabS : blockOk (patL 17) 107 12 4 = true ∧ blockOk (patL 18) 105 0 26 = true ∧ blockOk (patL 19) 105 5 19 = true ∧ blockOk (patL 20) 105 5 19 = true ∧ blockOk (patL 21) 105 5 19 = true ∧ blockOk (patL 22) 105 10 12 = true ∧ blockOk (patL 23) 105 10 12 = true ∧ blockOk (patL 14) 115 10 6 = true := by decide +kernel

theorem cond17 : ∀ v : Nat, v < 16 → IntKind.i64.wrap (IntKind.i64.wrap ((v : Int) + 1) - IntKind.i64.wrap (2 * (v : Int).tmod 2)) = ((v ^^^ 1 : Nat) : Int) := by decide +kernel

theorem near_eq (pos width n w : Nat) (hn : width = n + 1) (hn2 : n < 31) (lo hi : Int) (hlo : lo < 0) :
    readN ⟨pos, width, lo, hi, 1, false⟩ w = if ((2 ^ n : Nat) : Int) ≤ ((w / 2 ^ pos % 2 ^ width : Nat) : Int) then IntKind.i64.wrap (((w / 2 ^ pos % 2 ^ width : Nat) : Int) - ((2 ^ width : Nat) : Int)) else ((w / 2 ^ pos % 2 ^ width : Nat) : Int) := by
  subst hn
  have hl : w / 2 ^ pos % 2 ^ (n + 1) < 2 ^ (n + 1) := Nat.mod_lt _ (Nat.two_pow_pos _)
  have h32 : 2 ^ (n + 1) < 4294967296 := pow_lt32 _ (by omega)
  unfold readN
  simp only [Nat.add_one_ne_zero, if_false, Bool.false_eq_true, Nat.add_sub_cancel, Int.mul_one]
  generalize w / 2 ^ pos % 2 ^ (n + 1) = y at *
  by_cases hc : 2 ^ n ≤ y
  · rw [if_pos ⟨hlo, hc⟩, if_pos (by exact_mod_cast hc), IntWalk.i64_in _ (by omega)]
    simp
  · rw [if_neg (fun h => hc h.2), if_neg (by exact_mod_cast hc)]

theorem as_eq (k w : Nat) (hk : k < 48) (hk1 : 1 ≤ k) (hw : w < 4294967296) : asC k w = asR k w := by
  obtain ⟨r0, r1, r2, r4, r3⟩ := tabR k hk hk1
  obtain ⟨s17, s18, s19, s20, s21, s22, s23, s14⟩ := tabS
  unfold asC asE asR asK
  rw [read_ok k 100 w _ r0, read_ok k 110 w _ r1, read_ok k 109 w _ r2]
  have hc : readN (rowOf k).f4 w = condR k w := by
    unfold condR
    by_cases h : k = 17
    · subst h
      rw [if_pos rfl]
      have e : rv 17 107 w = w / 2 ^ 12 % 2 ^ 4 := rd_block _ w 107 12 4 s17
      rw [e, cond17 _ (Nat.mod_lt _ (by decide))]
      simp [readN, rowOf]
    · rw [if_neg h]
      exact read_ok k 99 w _ (r4 h)
  have hi : (if k = 14 then immL w else readN (rowOf k).f3 w) = immR k w := by
    unfold immR
    by_cases h14 : k = 14
    · subst h14
      rw [if_pos rfl, if_pos rfl]
      have e : rv 14 115 w = w / 2 ^ 10 % 2 ^ 6 := rd_block _ w 115 10 6 s14
      rw [e]
      unfold immL
      have e2 : ((w : Int).fdiv (2 ^ 10)) = ((w / 2 ^ 10 : Nat) : Int) := by
        rw [Int.fdiv_eq_ediv_of_nonneg _ (by decide)]; simp
      have e3 := and32 (w / 2 ^ 10) 63 (Nat.lt_of_le_of_lt (Nat.div_le_self _ _) hw) (by decide)
      have e4 : (w / 2 ^ 10) &&& 63 = w / 2 ^ 10 % 2 ^ 6 := by
        rw [← Nat.and_two_pow_sub_one_eq_mod]
      rw [e4] at e3
      rw [e2]
      have e5 : ((63 : Nat) : Int) = 63 := rfl
      rw [e5] at e3
      rw [e3, IntWalk.i64_in ((w / 2 ^ 10 % 2 ^ 6 : Nat) : Int) (by have : w / 2 ^ 10 % 2 ^ 6 < 64 := Nat.mod_lt _ (by decide); omega)]
    rw [if_neg h14, if_neg h14]
    by_cases h18 : k = 18
    · subst h18
      rw [if_pos rfl]
      have e : rv 18 105 w = w / 2 ^ 0 % 2 ^ 26 := rd_block _ w 105 0 26 s18
      rw [e]
      exact near_eq 0 26 25 w rfl (by decide) (-33554432) 33554431 (by decide)
    rw [if_neg h18]
    by_cases h19 : 19 ≤ k ∧ k ≤ 21
    · rw [if_pos h19]
      have e : rv k 105 w = w / 2 ^ 5 % 2 ^ 19 := by
        rcases (show k = 19 ∨ k = 20 ∨ k = 21 by omega) with rfl | rfl | rfl
        · exact rd_block _ w 105 5 19 s19
        · exact rd_block _ w 105 5 19 s20
        · exact rd_block _ w 105 5 19 s21
      have er : (rowOf k).f3 = ⟨5, 19, -262144, 262143, 1, false⟩ := by
        rcases (show k = 19 ∨ k = 20 ∨ k = 21 by omega) with rfl | rfl | rfl <;> rfl
      rw [e, er]
      exact near_eq 5 19 18 w rfl (by decide) (-262144) 262143 (by decide)
    rw [if_neg h19]
    by_cases h22 : k = 22 ∨ k = 23
    · rw [if_pos h22]
      have e : rv k 105 w = w / 2 ^ 10 % 2 ^ 12 := by
        rcases h22 with rfl | rfl
        · exact rd_block _ w 105 10 12 s22
        · exact rd_block _ w 105 10 12 s23
      have er : (rowOf k).f3 = ⟨10, 12, 0, 32760, 8, false⟩ := by
        rcases h22 with rfl | rfl <;> rfl
      have hl : w / 2 ^ 10 % 2 ^ 12 < 4096 := Nat.mod_lt _ (by decide)
      rw [e, er, IntWalk.i64_in _ (by omega)]
      simp [readN]
    rw [if_neg h22]
    exact read_ok k 105 w _ (r3 h14 (by omega))
  rw [hc, hi]

end Go.Proofs.Ytjcebkkmpgafkaa
