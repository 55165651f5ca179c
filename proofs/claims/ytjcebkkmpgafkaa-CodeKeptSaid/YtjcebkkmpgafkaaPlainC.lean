/-
  The plain law of chapter 14, third part: the words.
-/
import Derived.Test.YtjcebkkmpgafkaaPlainB
namespace Go.Proofs.Ytjcebkkmpgafkaa
open Go Go.RowKit Ev

def cov (f : Fld) (j : Nat) : Bool := decide (f.pos ≤ j) && decide (j < f.pos + f.width)
def srcN (f : Fld) (v : Int) : Nat := if f.turned then (v.tdiv f.step % 4294967296).toNat ^^^ 1 else (v.tdiv f.step % 4294967296).toNat

theorem lay_bit (f : Fld) (v : Int) (j : Nat) (hp : f.pos + f.width ≤ 32) : (layN f v).testBit j = (cov f j && (srcN f v).testBit (j - f.pos)) := by
  unfold layN cov srcN
  by_cases hw : f.width = 0
  · simp only [hw, if_true, Nat.zero_testBit, Nat.add_zero]
    by_cases h1 : f.pos ≤ j
    · have : decide (j < f.pos) = false := by simp; omega
      simp [this]
    · simp [h1]
  · rw [if_neg hw]
    simp only
    generalize (v.tdiv f.step % 4294967296).toNat = x
    have hx : x % 2 ^ f.width < 2 ^ f.width := Nat.mod_lt _ (Nat.two_pow_pos _)
    have h1w : 1 < 2 ^ f.width := Nat.one_lt_two_pow hw
    have key : ∀ y : Nat, y < 2 ^ f.width → (∀ m, m < f.width → y.testBit m = (if f.turned then x ^^^ 1 else x).testBit m) → (y * 2 ^ f.pos % 4294967296).testBit j = (decide (f.pos ≤ j) && decide (j < f.pos + f.width) && (if f.turned then x ^^^ 1 else x).testBit (j - f.pos)) := by
      intro y hy hm
      have hlt : y * 2 ^ f.pos < 4294967296 := by
        calc y * 2 ^ f.pos < 2 ^ f.width * 2 ^ f.pos := Nat.mul_lt_mul_of_pos_right hy (Nat.two_pow_pos _)
          _ = 2 ^ (f.width + f.pos) := (Nat.pow_add 2 _ _).symm
          _ ≤ 2 ^ 32 := Nat.pow_le_pow_right (by decide) (by omega)
      rw [Nat.mod_eq_of_lt hlt, ← Nat.shiftLeft_eq, Nat.testBit_shiftLeft]
      by_cases h1 : f.pos ≤ j
      · by_cases h2 : j < f.pos + f.width
        · rw [hm (j - f.pos) (by omega)]
          simp [h1, h2]
        · have : y.testBit (j - f.pos) = false := Nat.testBit_lt_two_pow (Nat.lt_of_lt_of_le hy (Nat.pow_le_pow_right (by decide) (by omega)))
          rw [this]
          simp [h2]
      · simp [h1]
    cases ht : f.turned
    · rw [ht] at key
      simp only [Bool.false_eq_true, if_false] at key ⊢
      exact key _ hx (fun m hm => by rw [Nat.testBit_mod_two_pow]; simp [hm])
    · rw [ht] at key
      simp only [if_true] at key ⊢
      refine key _ (Nat.xor_lt_two_pow hx h1w) (fun m hm => by rw [Nat.testBit_xor, Nat.testBit_xor, Nat.testBit_mod_two_pow]; simp [hm])

theorem wd_bit (i : I) (l : List Nat) : ∀ m j, j < m → (wdT i l m).testBit j = decide (bitV i l (31 - j) = 1)
  | 0, j, h => by omega
  | m + 1, j, h => by
    have hb := bitV_lt i l (31 - m)
    simp only [wdT]
    rw [Nat.testBit_or, ← Nat.shiftLeft_eq, Nat.testBit_shiftLeft]
    by_cases hj : j < m
    · rw [wd_bit i l m j hj]
      have : decide (m ≤ j) = false := by simp; omega
      simp [this]
    · have : j = m := by omega
      subst this
      rw [Nat.testBit_lt_two_pow (wdT_lt i l j)]
      generalize bitV i l (31 - j) = b at *
      have : b = 0 ∨ b = 1 := by omega
      rcases this with rfl | rfl <;> simp

def orN (r : Row) (i : I) : Nat := ((((r.word ||| layN r.f0 i.rd) ||| layN r.f1 i.rn) ||| layN r.f2 i.rm) ||| layN r.f3 i.imm) ||| layN r.f4 i.cond

theorem or_lt (a b : Nat) (ha : a < 4294967296) (hb : b < 4294967296) : a ||| b < 4294967296 := Nat.or_lt_two_pow (n := 32) ha hb

theorem laidE_eq (r : Row) (i : I) (hw : r.word < 4294967296) : laidE r i = (orN r i : Nat) ∧ orN r i < 4294967296 := by
  have l0 := layN_lt r.f0 i.rd
  have l1 := layN_lt r.f1 i.rn
  have l2 := layN_lt r.f2 i.rm
  have l3 := layN_lt r.f3 i.imm
  have l4 := layN_lt r.f4 i.cond
  unfold laidE orN
  have o0 := or_lt _ _ hw l0
  have o1 := or_lt _ _ o0 l1
  have o2 := or_lt _ _ o1 l2
  have o3 := or_lt _ _ o2 l3
  rw [or32 _ _ hw l0, or32 _ _ o0 l1, or32 _ _ o1 l2, or32 _ _ o2 l3, or32 _ _ o3 l4]
  exact ⟨rfl, or_lt _ _ o3 l4⟩

theorem orN_bit (r : Row) (i : I) (j : Nat) (h0 : r.f0.pos + r.f0.width ≤ 32) (h1 : r.f1.pos + r.f1.width ≤ 32) (h2 : r.f2.pos + r.f2.width ≤ 32) (h3 : r.f3.pos + r.f3.width ≤ 32) (h4 : r.f4.pos + r.f4.width ≤ 32) :
    (orN r i).testBit j = (r.word.testBit j || (cov r.f0 j && (srcN r.f0 i.rd).testBit (j - r.f0.pos)) || (cov r.f1 j && (srcN r.f1 i.rn).testBit (j - r.f1.pos)) || (cov r.f2 j && (srcN r.f2 i.rm).testBit (j - r.f2.pos)) || (cov r.f3 j && (srcN r.f3 i.imm).testBit (j - r.f3.pos)) || (cov r.f4 j && (srcN r.f4 i.cond).testBit (j - r.f4.pos))) := by
  unfold orN
  simp only [Nat.testBit_or, lay_bit _ _ _ h0, lay_bit _ _ _ h1, lay_bit _ _ _ h2, lay_bit _ _ _ h3, lay_bit _ _ _ h4]

/-- Which fields stand at a bit: the field t alone (5: none). -/
def alone (r : Row) (j t : Nat) : Bool := (cov r.f0 j == (t == 0)) && ((cov r.f1 j == (t == 1)) && ((cov r.f2 j == (t == 2)) && ((cov r.f3 j == (t == 3)) && (cov r.f4 j == (t == 4)))))

def bitOk (k j : Nat) : Bool :=
  let r := rowOf k
  let c := (patL k).getD (31 - j) 0
  let b := bh (patL k) c (31 - j) j
  if c = 48 then alone r j 5 && !r.word.testBit j
  else if c = 49 then alone r j 5 && r.word.testBit j
  else !r.word.testBit j && (
    if c = 100 then alone r j 0 && (j - r.f0.pos == b && (decide (r.f0.step = 1) && !r.f0.turned))
    else if c = 110 then alone r j 1 && (j - r.f1.pos == b && (decide (r.f1.step = 1) && !r.f1.turned))
    else if c = 109 then alone r j 2 && (j - r.f2.pos == b && (decide (r.f2.step = 1) && !r.f2.turned))
    else if c = 105 then alone r j 3 && (j - r.f3.pos == b && (decide (r.f3.step = if k = 22 ∨ k = 23 then 8 else 1) && !r.f3.turned))
    else if c = 99 then alone r j 4 && (j - r.f4.pos == b && (decide (r.f4.step = 1) && !r.f4.turned))
    else if c = 107 then alone r j 4 && (j - r.f4.pos == b && (decide (r.f4.step = 1) && (r.f4.turned && decide (k = 17))))
    else if c = 114 then alone r j 5 && (decide (k = 14) && (decide (16 ≤ j) && (decide (j < 22) && j - 16 == b)))
    else if c = 115 then alone r j 5 && (decide (k = 14) && (decide (10 ≤ j) && (decide (j < 16) && j - 10 == b)))
    else false) && (decide (k ≠ 14) || (decide (c = 114) == (decide (16 ≤ j) && decide (j < 22))) && (decide (c = 115) == (decide (10 ≤ j) && decide (j < 16))))

theorem tabB : ∀ k : Nat, k < 48 → 1 ≤ k → ∀ j : Nat, j < 32 → bitOk k j = true := by decide +kernel
theorem tab14 : ∀ j : Nat, j < 32 → ((16 ≤ j ∧ j < 22) ↔ (patL 14).getD (31 - j) 0 = 114) ∧ ((10 ≤ j ∧ j < 16) ↔ (patL 14).getD (31 - j) 0 = 115) := by decide +kernel
theorem tabW : ∀ k : Nat, k < 48 → (rowOf k).f0.pos + (rowOf k).f0.width ≤ 32 ∧ (rowOf k).f1.pos + (rowOf k).f1.width ≤ 32 ∧ (rowOf k).f2.pos + (rowOf k).f2.width ≤ 32 ∧ (rowOf k).f3.pos + (rowOf k).f3.width ≤ 32 ∧ (rowOf k).f4.pos + (rowOf k).f4.width ≤ 32 := by decide +kernel

theorem toNat_bit (v : Int) (b : Nat) (hb : b < 32) : ((v % 4294967296).toNat).testBit b = ((v % 18446744073709551616).toNat).testBit b := by
  have : (v % 4294967296).toNat = (v % 18446744073709551616).toNat % 2 ^ 32 := by omega
  rw [this, Nat.testBit_mod_two_pow]
  simp [hb]

theorem wrap_mod (v : Int) : IntKind.i64.wrap v % 18446744073709551616 = v % 18446744073709551616 := by
  rw [IntKind.wrap_i64]; omega

theorem bit_of (x b : Nat) : decide (x / 2 ^ b % 2 = 1) = x.testBit b := by
  rw [Nat.testBit_eq_decide_div_mod_eq]

theorem src_one (f : Fld) (v : Int) (hs : f.step = 1) (ht : f.turned = false) : srcN f v = (v % 4294967296).toNat := by
  unfold srcN; rw [hs, ht, Int.tdiv_one]; rfl

theorem src_eight (f : Fld) (v : Int) (hs : f.step = 8) (ht : f.turned = false) : srcN f v = (v.tdiv 8 % 4294967296).toNat := by
  unfold srcN; rw [hs, ht]; rfl

theorem src_turned (f : Fld) (v : Int) (hs : f.step = 1) (ht : f.turned = true) : srcN f v = (v % 4294967296).toNat ^^^ 1 := by
  unfold srcN; rw [hs, ht, Int.tdiv_one]; rfl

theorem cond_turned : ∀ v : Nat, v < 14 → ((if (v : Int).tmod 2 = 0 then IntKind.i64.wrap ((v : Int) + 1) else IntKind.i64.wrap ((v : Int) - 1)) % 18446744073709551616).toNat = v ^^^ 1 := by decide +kernel

/-- What lsl's second field adds. -/
def extN (n : Nat) : Nat := (64 - n) * 2 ^ 16 ||| (63 - n) * 2 ^ 10

theorem ext_bit (n j : Nat) (h1 : 1 ≤ n) : (extN n).testBit j = (decide (16 ≤ j) && (decide (j < 22) && (64 - n).testBit (j - 16)) || (decide (10 ≤ j) && (decide (j < 16) && (63 - n).testBit (j - 10)))) := by
  unfold extN
  rw [Nat.testBit_or, ← Nat.shiftLeft_eq, ← Nat.shiftLeft_eq, Nat.testBit_shiftLeft, Nat.testBit_shiftLeft]
  congr 1
  · by_cases h : j < 22
    · simp [h]
    · have : (64 - n).testBit (j - 16) = false := Nat.testBit_lt_two_pow (Nat.lt_of_lt_of_le (show 64 - n < 2 ^ 6 by omega) (Nat.pow_le_pow_right (by decide) (by omega)))
      simp [this]
  · by_cases h : j < 16
    · simp [h]
    · have : (63 - n).testBit (j - 10) = false := Nat.testBit_lt_two_pow (Nat.lt_of_lt_of_le (show 63 - n < 2 ^ 6 by omega) (Nat.pow_le_pow_right (by decide) (by omega)))
      simp [this]

theorem u32_in (x : Nat) (h : x < 4294967296) : IntKind.u32.wrap (x : Int) = x := by
  rw [IntKind.wrap_u32]; omega

theorem laidL_eq (r : Row) (i : I) (n : Nat) (hw : r.word < 4294967296) (hn : i.imm = n) (h1 : 1 ≤ n) (h2 : n ≤ 63) : laidL r i = ((orN r i ||| extN n : Nat) : Int) := by
  obtain ⟨e, hl⟩ := laidE_eq r i hw
  unfold laidL
  rw [e, hn]
  have a1 : IntKind.i64.wrap (64 - (n : Int)) = ((64 - n : Nat) : Int) := by rw [IntWalk.i64_in _ (by omega)]; omega
  have a2 : IntKind.i64.wrap (63 - (n : Int)) = ((63 - n : Nat) : Int) := by rw [IntWalk.i64_in _ (by omega)]; omega
  have b1 : ((64 - n : Nat) : Int) * 2 ^ 16 = (((64 - n) * 2 ^ 16 : Nat) : Int) := by simp
  have b2 : ((63 - n : Nat) : Int) * 2 ^ 10 = (((63 - n) * 2 ^ 10 : Nat) : Int) := by simp
  have c1 : (64 - n) * 2 ^ 16 < 4294967296 := Nat.lt_of_le_of_lt (Nat.mul_le_mul_right (2 ^ 16) (show 64 - n ≤ 64 by omega)) (by decide)
  have c2 : (63 - n) * 2 ^ 10 < 4294967296 := Nat.lt_of_le_of_lt (Nat.mul_le_mul_right (2 ^ 10) (show 63 - n ≤ 63 by omega)) (by decide)
  rw [a1, a2, u32_in _ (by omega), u32_in _ (by omega), b1, b2, u32_in _ c1, u32_in _ c2, or32 _ _ c1 c2, or32 _ _ hl (or_lt _ _ c1 c2)]
  rfl

theorem bit_form (i : I) (l : List Nat) (j : Nat) (hj : j < 32) : decide (bitV i l (31 - j) = 1) = if l.getD (31 - j) 0 = 49 then true else if 57 < l.getD (31 - j) 0 then ((valV i (l.getD (31 - j) 0)) % 18446744073709551616).toNat.testBit (bh l (l.getD (31 - j) 0) (31 - j) j) else false := by
  unfold bitV
  rw [show 31 - (31 - j) = j by omega]
  split
  · rfl
  · split
    · exact bit_of _ _
    · rfl

theorem fits_cond (i : I) (hf : fitsB (rowOf 17) i = true) : ∃ c : Nat, i.cond = c ∧ c < 14 := by
  unfold fitsB at hf
  simp only [Bool.and_eq_true] at hf
  have h := hf.2.2.2.2.1
  simp [inB, rowOf] at h
  exact ⟨i.cond.toNat, by omega, by omega⟩

theorem fits_imm (i : I) (ho : i.op = 14) (hf : fitsB (rowOf 14) i = true) : ∃ n : Nat, i.imm = n ∧ 1 ≤ n ∧ n ≤ 63 := by
  unfold fitsB at hf
  simp only [Bool.and_eq_true] at hf
  have h := hf.2.2.2.1
  have h2 := hf.2.2.2.2.2
  simp [inB, rowOf] at h
  simp [ho] at h2
  exact ⟨i.imm.toNat, by omega, by omega, by omega⟩

theorem full_bit (i : I) (k j n : Nat) (ho : i.op = k) (h1 : 1 ≤ k) (hk : k < 48) (hf : fitsB (rowOf k) i = true) (hj : j < 32) (hn : k = 14 → i.imm = n ∧ 1 ≤ n ∧ n ≤ 63) :
    ((orN (rowOf k) i).testBit j || (decide (k = 14) && (extN n).testBit j)) = decide (bitV i (patL k) (31 - j) = 1) := by
  have t := tabB k hk h1 j hj
  obtain ⟨w0, w1, w2, w3, w4⟩ := tabW k hk
  rw [orN_bit (rowOf k) i j w0 w1 w2 w3 w4, bit_form i _ j hj]
  have hc17 : k = 17 → ∃ c : Nat, i.cond = c ∧ c < 14 := fun h => by subst h; exact fits_cond i hf
  have he : (decide (k = 14) && (extN n).testBit j) = (decide (k = 14) && (decide ((patL k).getD (31 - j) 0 = 114) && (64 - n).testBit (j - 16) || decide ((patL k).getD (31 - j) 0 = 115) && (63 - n).testBit (j - 10))) := by
    by_cases h : k = 14
    · subst h
      obtain ⟨e1, e2⟩ := tab14 j hj
      rw [ext_bit n j (hn rfl).2.1, ← decide_eq_decide.2 e1, ← decide_eq_decide.2 e2, Bool.decide_and, Bool.decide_and, Bool.and_assoc, Bool.and_assoc]
    · simp [h]
  rw [he]
  clear he hf
  unfold bitOk at t
  simp only at t
  generalize (patL k).getD (31 - j) 0 = c at *
  generalize bh (patL k) c (31 - j) j = b at *
  generalize rowOf k = r at *
  by_cases c48 : c = 48
  · subst c48
    simp [alone] at t
    simp [t]
  by_cases c49 : c = 49
  · subst c49
    simp [alone] at t
    simp [t]
  rw [if_neg c48, if_neg c49] at t
  by_cases c100 : c = 100
  · subst c100
    simp [alone] at t
    obtain ⟨⟨hw, ⟨a0, a1, a2, a3, a4⟩, hb, hs, ht⟩, -⟩ := t
    have e := src_one r.f0 i.rd hs ht
    have e2 := toNat_bit i.rd b (by omega)
    simp [hw, a0, a1, a2, a3, a4, hb, e, e2, valV]
  by_cases c110 : c = 110
  · subst c110
    simp [alone] at t
    obtain ⟨⟨hw, ⟨a0, a1, a2, a3, a4⟩, hb, hs, ht⟩, -⟩ := t
    have e := src_one r.f1 i.rn hs ht
    have e2 := toNat_bit i.rn b (by omega)
    simp [hw, a0, a1, a2, a3, a4, hb, e, e2, valV]
  by_cases c109 : c = 109
  · subst c109
    simp [alone] at t
    obtain ⟨⟨hw, ⟨a0, a1, a2, a3, a4⟩, hb, hs, ht⟩, -⟩ := t
    have e := src_one r.f2 i.rm hs ht
    have e2 := toNat_bit i.rm b (by omega)
    simp [hw, a0, a1, a2, a3, a4, hb, e, e2, valV]
  by_cases c105 : c = 105
  · subst c105
    simp [alone] at t
    obtain ⟨⟨hw, ⟨a0, a1, a2, a3, a4⟩, hb, hs, ht⟩, -⟩ := t
    by_cases h22 : k = 22 ∨ k = 23
    · rw [if_pos h22] at hs
      have e := src_eight r.f3 i.imm hs ht
      have e2 := toNat_bit (i.imm.tdiv 8) b (by omega)
      have h22' : i.op = 22 ∨ i.op = 23 := by omega
      simp [hw, a0, a1, a2, a3, a4, hb, e, e2, valV, h22', wrap_mod]
    · rw [if_neg h22] at hs
      have e := src_one r.f3 i.imm hs ht
      have e2 := toNat_bit i.imm b (by omega)
      have h22' : ¬ (i.op = 22 ∨ i.op = 23) := by omega
      simp [hw, a0, a1, a2, a3, a4, hb, e, e2, valV, h22']
  by_cases c99 : c = 99
  · subst c99
    simp [alone] at t
    obtain ⟨⟨hw, ⟨a0, a1, a2, a3, a4⟩, hb, hs, ht⟩, -⟩ := t
    have e := src_one r.f4 i.cond hs ht
    have e2 := toNat_bit i.cond b (by omega)
    simp [hw, a0, a1, a2, a3, a4, hb, e, e2, valV]
  by_cases c107 : c = 107
  · subst c107
    simp [alone] at t
    obtain ⟨⟨hw, ⟨a0, a1, a2, a3, a4⟩, hb, hs, ht, h17⟩, -⟩ := t
    obtain ⟨v, hv, hv2⟩ := hc17 h17
    have e := src_turned r.f4 i.cond hs ht
    have e2 := cond_turned v hv2
    have e3 : ((v : Int) % 4294967296).toNat = v := by omega
    rw [hv, e3] at e
    have e4 : valV i 107 = if (v : Int).tmod 2 = 0 then IntKind.i64.wrap ((v : Int) + 1) else IntKind.i64.wrap ((v : Int) - 1) := by rw [← hv]; rfl
    rw [e4, e2, hv, e]
    simp [hw, a0, a1, a2, a3, a4, hb]
  by_cases c114 : c = 114
  · subst c114
    simp [alone] at t
    obtain ⟨⟨hw, ⟨a0, a1, a2, a3, a4⟩, h14, hb1, hb2, hb⟩, -⟩ := t
    obtain ⟨e, e1, e2⟩ := hn h14
    have e4 : valV i 114 = ((64 - n : Nat) : Int) := by
      show IntKind.i64.wrap (64 - i.imm) = _
      rw [e, IntWalk.i64_in _ (by omega)]; omega
    have e5 : (((64 - n : Nat) : Int) % 18446744073709551616).toNat = 64 - n := by omega
    rw [e4, e5]
    simp [hw, a0, a1, a2, a3, a4, hb, h14]
  by_cases c115 : c = 115
  · subst c115
    simp [alone] at t
    obtain ⟨⟨hw, ⟨a0, a1, a2, a3, a4⟩, h14, hb1, hb2, hb⟩, -⟩ := t
    obtain ⟨e, e1, e2⟩ := hn h14
    have e4 : valV i 115 = ((63 - n : Nat) : Int) := by
      show IntKind.i64.wrap (63 - i.imm) = _
      rw [e, IntWalk.i64_in _ (by omega)]; omega
    have e5 : (((63 - n : Nat) : Int) % 18446744073709551616).toNat = 63 - n := by omega
    rw [e4, e5]
    simp [hw, a0, a1, a2, a3, a4, hb, h14]
  simp [c100, c110, c109, c105, c99, c107, c114, c115] at t

theorem word_row : ∀ k : Nat, k < 48 → (rowOf k).word < 4294967296 := by decide +kernel

theorem orN_lt (r : Row) (i : I) (hw : r.word < 4294967296) : orN r i < 4294967296 := (laidE_eq r i hw).2

theorem word_eq (i : I) (k : Nat) (ho : i.op = k) (h1 : 1 ≤ k) (hk : k < 48) (hf : fitsB (rowOf k) i = true) : laidV (rowOf k) i = ((wdT i (patL k) 32 : Nat) : Int) := by
  have hw := word_row k hk
  have hlt := wdT_lt i (patL k) 32
  unfold laidV
  by_cases h14 : k = 14
  · subst h14
    obtain ⟨n, e, e1, e2⟩ := fits_imm i ho hf
    have c1 : (64 - n) * 2 ^ 16 < 4294967296 := Nat.lt_of_le_of_lt (Nat.mul_le_mul_right (2 ^ 16) (show 64 - n ≤ 64 by omega)) (by decide)
    have c2 : (63 - n) * 2 ^ 10 < 4294967296 := Nat.lt_of_le_of_lt (Nat.mul_le_mul_right (2 ^ 10) (show 63 - n ≤ 63 by omega)) (by decide)
    rw [if_pos (show i.op = 14 from ho), laidL_eq _ i n hw e e1 e2]
    have hl2 : orN (rowOf 14) i ||| extN n < 4294967296 := or_lt _ _ (orN_lt _ i hw) (or_lt _ _ c1 c2)
    congr 1
    refine Nat.eq_of_testBit_eq fun j => ?_
    by_cases hj : j < 32
    · rw [wd_bit i _ 32 j hj, ← full_bit i 14 j n ho h1 hk hf hj (fun _ => ⟨e, e1, e2⟩), Nat.testBit_or]
      simp
    · rw [Nat.testBit_lt_two_pow (Nat.lt_of_lt_of_le hl2 (Nat.pow_le_pow_right (n := 2) (i := 32) (by decide) (by omega))), Nat.testBit_lt_two_pow (Nat.lt_of_lt_of_le hlt (Nat.pow_le_pow_right (by decide) (by omega)))]
  · rw [if_neg (by omega), (laidE_eq _ i hw).1]
    have hl2 := orN_lt _ i hw
    congr 1
    refine Nat.eq_of_testBit_eq fun j => ?_
    by_cases hj : j < 32
    · rw [wd_bit i _ 32 j hj, ← full_bit i k j 0 ho h1 hk hf hj (fun h => absurd h h14)]
      simp [h14]
    · rw [Nat.testBit_lt_two_pow (Nat.lt_of_lt_of_le hl2 (Nat.pow_le_pow_right (n := 2) (i := 32) (by decide) (by omega))), Nat.testBit_lt_two_pow (Nat.lt_of_lt_of_le hlt (Nat.pow_le_pow_right (by decide) (by omega)))]

end Go.Proofs.Ytjcebkkmpgafkaa
