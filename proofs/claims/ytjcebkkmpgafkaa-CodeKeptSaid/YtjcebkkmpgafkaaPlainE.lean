/-
  The plain law of chapter 14, fifth part: there and back; a word is one operation's alone.
-/
import Derived.Test.YtjcebkkmpgafkaaPlainD
namespace Go.Proofs.Ytjcebkkmpgafkaa
open Go Go.RowKit Ev

/-- A field's letter: it stands just at the field's bits, in order. -/
def ordOk (l : List Nat) (c pos width : Nat) : Bool :=
  blockOk l c pos width && ((List.range 32).all fun j => !(decide (pos ≤ j) && decide (j < pos + width)) || (bh l c (31 - j) j == j - pos))

theorem rv_val (i : I) (k c pos width : Nat) (hc : 57 < c) (h : ordOk (patL k) c pos width = true) : rv k c (wdT i (patL k) 32) = ((valV i c) % 18446744073709551616).toNat % 2 ^ width := by
  simp only [ordOk, Bool.and_eq_true, List.all_eq_true, List.mem_range, Bool.or_eq_true, Bool.not_eq_true', Bool.and_eq_false_imp, decide_eq_true_eq, decide_eq_false_iff_not, beq_iff_eq] at h
  obtain ⟨hb, ho⟩ := h
  have hb' := hb
  simp only [blockOk, Bool.and_eq_true, decide_eq_true_eq, List.all_eq_true, List.mem_range] at hb'
  obtain ⟨hp, hl⟩ := hb'
  unfold rv
  rw [rd_block _ _ c pos width hb]
  refine Nat.eq_of_testBit_eq fun m => ?_
  rw [Nat.testBit_mod_two_pow, Nat.testBit_mod_two_pow]
  by_cases hm : m < width
  · have hj : pos + m < 32 := by omega
    have e1 : (patL k).getD (31 - (pos + m)) 0 = c := (hl (31 - (pos + m)) (by omega)).2 (by omega)
    have e2 := wd_bit i (patL k) 32 (pos + m) hj
    rw [bit_form i (patL k) (pos + m) hj, e1, if_neg (by omega), if_pos hc] at e2
    have e3 : bh (patL k) c (31 - (pos + m)) (pos + m) = m := by
      rcases ho (pos + m) hj with h | h
      · exact absurd (show pos + m < pos + width by omega) (h (by omega))
      · omega
    rw [e3] at e2
    rw [Nat.testBit_div_two_pow, Nat.add_comm m pos, e2]
  · simp [hm]

def plainOk (f : Fld) : Bool := decide (f.width ≤ 26) && (decide (f.step = 0) || decide (f.step = 1) && (decide (f.lo = 0) && decide (f.hi < 2 ^ f.width)))

def backOk (k : Nat) : Bool :=
  let r := rowOf k
  ordOk (patL k) 100 r.f0.pos r.f0.width && (ordOk (patL k) 110 r.f1.pos r.f1.width && (ordOk (patL k) 109 r.f2.pos r.f2.width &&
  ((k == 14 || ordOk (patL k) 105 r.f3.pos r.f3.width) && ((k == 17 || ordOk (patL k) 99 r.f4.pos r.f4.width) &&
  (plainOk r.f0 && (plainOk r.f1 && (plainOk r.f2 && ((k == 14 || (decide (18 ≤ k) && decide (k ≤ 23) || plainOk r.f3)) && plainOk r.f4))))))))

theorem tabBack : ∀ k : Nat, k < 48 → 1 ≤ k → backOk k = true := by decide +kernel
theorem tabBack2 : ordOk (patL 17) 107 12 4 = true ∧ ordOk (patL 14) 115 10 6 = true := by decide +kernel

theorem plain_back (f : Fld) (v : Int) (h : plainOk f = true) (hin : inB f v = true) : ((((v % 18446744073709551616).toNat % 2 ^ f.width : Nat)) : Int) = v := by
  unfold inB at hin
  unfold plainOk at h
  simp only [Bool.and_eq_true, Bool.or_eq_true, decide_eq_true_eq] at h
  obtain ⟨h26, h⟩ := h
  by_cases hs : f.step = 0
  · rw [if_pos hs, beq_iff_eq] at hin
    subst hin
    simp
  · rw [if_neg hs] at hin
    simp only [Bool.and_eq_true, decide_eq_true_eq, beq_iff_eq] at hin
    rcases h with h | ⟨-, h2, h3⟩
    · exact absurd h hs
    obtain ⟨h4, h5, -⟩ := hin
    have e : ((2 ^ f.width : Nat) : Int) = 2 ^ f.width := by simp
    rw [← e] at h3
    have : 2 ^ f.width ≤ 2 ^ 26 := Nat.pow_le_pow_right (by decide) h26
    generalize 2 ^ f.width = p at *
    have e2 : (v % 18446744073709551616).toNat = v.toNat := by omega
    rw [e2, Nat.mod_eq_of_lt (by omega)]
    omega

theorem cond_back : ∀ v : Nat, v < 14 → IntKind.i64.wrap (IntKind.i64.wrap ((((v ^^^ 1) % 2 ^ 4 : Nat) : Int) + 1) - IntKind.i64.wrap (2 * (((v ^^^ 1) % 2 ^ 4 : Nat) : Int).tmod 2)) = v := by decide +kernel

theorem near_back (v : Int) (n : Nat) (hn : n < 31) (h1 : -((2 ^ n : Nat) : Int) ≤ v) (h2 : v < ((2 ^ n : Nat) : Int)) :
    (if ((2 ^ n : Nat) : Int) ≤ (((v % 18446744073709551616).toNat % (2 ^ n + 2 ^ n) : Nat) : Int) then IntKind.i64.wrap ((((v % 18446744073709551616).toNat % (2 ^ n + 2 ^ n) : Nat) : Int) - ((2 ^ n + 2 ^ n : Nat) : Int)) else (((v % 18446744073709551616).toNat % (2 ^ n + 2 ^ n) : Nat) : Int)) = v := by
  have h32 : 2 ^ n ≤ 2 ^ 31 := Nat.pow_le_pow_right (by decide) (by omega)
  have hdvd : 18446744073709551616 % (2 ^ n + 2 ^ n) = 0 := by
    rw [← Nat.mul_two, ← Nat.pow_succ]
    exact Nat.mod_eq_zero_of_dvd (show 2 ^ (n + 1) ∣ 2 ^ 64 from Nat.pow_dvd_pow 2 (by omega))
  generalize 2 ^ n = p at *
  by_cases hv : 0 ≤ v
  · have e : (v % 18446744073709551616).toNat = v.toNat := by omega
    rw [e, Nat.mod_eq_of_lt (by omega), if_neg (by omega)]
    omega
  · have e : (v % 18446744073709551616).toNat = 18446744073709551616 - (-v).toNat := by omega
    obtain ⟨m, hm⟩ := Nat.dvd_of_mod_eq_zero hdvd
    have hm1 : 1 ≤ m := by
      rcases m with _ | m
      · simp at hm
      · omega
    obtain ⟨m', rfl⟩ : ∃ m', m = m' + 1 := ⟨m - 1, by omega⟩
    have e2 : 18446744073709551616 - (-v).toNat = (p + p - (-v).toNat) + (p + p) * m' := by
      rw [Nat.mul_add] at hm; omega
    rw [e, e2, Nat.add_mul_mod_self_left, Nat.mod_eq_of_lt (by omega), if_pos (by omega), IntWalk.i64_in _ (by omega)]
    omega

theorem in_imm (i : I) (k : Nat) (hf : fitsB (rowOf k) i = true) : inB (rowOf k).f0 i.rd = true ∧ inB (rowOf k).f1 i.rn = true ∧ inB (rowOf k).f2 i.rm = true ∧ inB (rowOf k).f3 i.imm = true ∧ inB (rowOf k).f4 i.cond = true := by
  unfold fitsB at hf
  simp only [Bool.and_eq_true] at hf
  exact ⟨hf.1, hf.2.1, hf.2.2.1, hf.2.2.2.1, hf.2.2.2.2.1⟩

theorem val_imm (i : I) (h : ¬ (i.op = 22 ∨ i.op = 23)) : valV i 105 = i.imm := by
  unfold valV; simp [h]

theorem imm_back (i : I) (k : Nat) (ho : i.op = k) (h1 : 1 ≤ k) (hk : k < 48) (hf : fitsB (rowOf k) i = true) : immR k (wdT i (patL k) 32) = i.imm := by
  have tb := tabBack k hk h1
  unfold backOk at tb
  simp only [Bool.and_eq_true, Bool.or_eq_true, beq_iff_eq, decide_eq_true_eq] at tb
  obtain ⟨-, -, -, o3, -, -, -, -, p3, -⟩ := tb
  obtain ⟨-, -, -, hin, -⟩ := in_imm i k hf
  unfold immR
  by_cases h14 : k = 14
  · subst h14
    obtain ⟨n, e, e1, e2⟩ := fits_imm i ho hf
    rw [if_pos rfl, rv_val i 14 115 10 6 (by decide) tabBack2.2]
    have e4 : valV i 115 = ((63 - n : Nat) : Int) := by
      show IntKind.i64.wrap (63 - i.imm) = _
      rw [e, IntWalk.i64_in _ (by omega)]; omega
    have e5 : (((63 - n : Nat) : Int) % 18446744073709551616).toNat = 63 - n := by omega
    rw [e4, e5, Nat.mod_eq_of_lt (show 63 - n < 2 ^ 6 by omega), IntWalk.i64_in _ (by omega), e]
    omega
  rw [if_neg h14]
  have o3' : ordOk (patL k) 105 (rowOf k).f3.pos (rowOf k).f3.width = true := by
    rcases o3 with h | h
    · exact absurd h h14
    · exact h
  rw [rv_val i k 105 _ _ (by decide) o3']
  by_cases h22 : k = 22 ∨ k = 23
  · have er : (rowOf k).f3 = ⟨10, 12, 0, 32760, 8, false⟩ := by
      rcases h22 with rfl | rfl <;> rfl
    rw [er] at hin ⊢
    simp [inB] at hin
    have ev : valV i 105 = IntKind.i64.wrap (i.imm.tdiv 8) := by
      have : i.op = 22 ∨ i.op = 23 := by omega
      unfold valV; simp [this]
    rw [if_neg (by omega), if_neg (by omega), if_pos h22, ev]
    obtain ⟨h5, h6, h7⟩ := hin
    generalize i.imm = v at *
    obtain ⟨n, rfl⟩ := Int.eq_ofNat_of_zero_le h5
    have et : ((n : Int).tdiv 8) = ((n / 8 : Nat) : Int) := by
      rw [Int.tdiv_eq_ediv_of_nonneg (by omega)]; rfl
    have et2 : ((n : Int).tmod 8) = ((n % 8 : Nat) : Int) := by
      rw [Int.tmod_eq_emod_of_nonneg (by omega)]; rfl
    rw [et, IntWalk.i64_in ((n / 8 : Nat) : Int) (by omega)]
    have e5 : (((n / 8 : Nat) : Int) % 18446744073709551616).toNat = n / 8 := by omega
    simp only
    rw [e5, Nat.mod_eq_of_lt (show n / 8 < 2 ^ 12 by omega), IntWalk.i64_in _ (by omega)]
    omega
  have ev : valV i 105 = i.imm := val_imm i (by omega)
  rw [ev]
  by_cases h18 : k = 18
  · subst h18
    rw [if_pos rfl]
    simp [inB, rowOf] at hin
    exact near_back i.imm 25 (by decide) (by show -33554432 ≤ _; exact hin.1) (by show _ < (33554432 : Int); omega)
  rw [if_neg h18]
  by_cases h19 : 19 ≤ k ∧ k ≤ 21
  · have er : (rowOf k).f3 = ⟨5, 19, -262144, 262143, 1, false⟩ := by
      rcases (show k = 19 ∨ k = 20 ∨ k = 21 by omega) with rfl | rfl | rfl <;> rfl
    rw [if_pos h19]
    rw [er] at hin ⊢
    simp [inB] at hin
    exact near_back i.imm 18 (by decide) (by show -262144 ≤ _; exact hin.1) (by show _ < (262144 : Int); omega)
  rw [if_neg h19, if_neg h22]
  rcases p3 with h | h | h
  · omega
  · omega
  · exact plain_back _ _ h hin

theorem cond_back2 (i : I) (k : Nat) (h1 : 1 ≤ k) (hk : k < 48) (hf : fitsB (rowOf k) i = true) : condR k (wdT i (patL k) 32) = i.cond := by
  have tb := tabBack k hk h1
  unfold backOk at tb
  simp only [Bool.and_eq_true, Bool.or_eq_true, beq_iff_eq, decide_eq_true_eq] at tb
  obtain ⟨-, -, -, -, o4, -, -, -, -, p4⟩ := tb
  obtain ⟨-, -, -, -, hin⟩ := in_imm i k hf
  unfold condR
  by_cases h17 : k = 17
  · subst h17
    obtain ⟨v, hv, hv2⟩ := fits_cond i hf
    rw [if_pos rfl, rv_val i 17 107 12 4 (by decide) tabBack2.1]
    have e4 : valV i 107 = if (v : Int).tmod 2 = 0 then IntKind.i64.wrap ((v : Int) + 1) else IntKind.i64.wrap ((v : Int) - 1) := by rw [← hv]; rfl
    rw [e4, cond_turned v hv2, hv]
    exact cond_back v hv2
  rw [if_neg h17]
  have o4' : ordOk (patL k) 99 (rowOf k).f4.pos (rowOf k).f4.width = true := by
    rcases o4 with h | h
    · exact absurd h h17
    · exact h
  rw [rv_val i k 99 _ _ (by decide) o4']
  exact plain_back _ _ p4 hin

theorem as_back (i : I) (k : Nat) (ho : i.op = k) (h1 : 1 ≤ k) (hk : k < 48) (hf : fitsB (rowOf k) i = true) : asR k (wdT i (patL k) 32) = i := by
  have e3 := imm_back i k ho h1 hk hf
  have e4 := cond_back2 i k h1 hk hf
  have tb := tabBack k hk h1
  unfold backOk at tb
  simp only [Bool.and_eq_true, Bool.or_eq_true, beq_iff_eq, decide_eq_true_eq] at tb
  obtain ⟨o0, o1, o2, -, -, p0, p1, p2, -, -⟩ := tb
  obtain ⟨i0, i1, i2, -, -⟩ := in_imm i k hf
  have r0 := plain_back _ _ p0 i0
  have r1 := plain_back _ _ p1 i1
  have r2 := plain_back _ _ p2 i2
  unfold asR asK
  rw [e3, e4, rv_val i k 100 _ _ (by decide) o0, rv_val i k 110 _ _ (by decide) o1, rv_val i k 109 _ _ (by decide) o2]
  obtain ⟨op, rd, rn, rm, imm, cond⟩ := i
  simp only [valV] at *
  simp only [if_true, if_false, ho, Nat.reduceEqDiff] at *
  rw [r0, r1, r2]

def conj (k m j : Nat) : Bool := decide ((patL k).getD (31 - j) 0 = 48) && decide ((patL m).getD (31 - j) 0 = 49) || decide ((patL k).getD (31 - j) 0 = 49) && decide ((patL m).getD (31 - j) 0 = 48)
def apartOk (k m : Nat) : Bool := k == m || (k == 14 && m == 15 || (k == 15 && m == 14 || (List.range 32).any fun j => conj k m j))
theorem tabApart : ∀ k : Nat, k < 48 → 1 ≤ k → ∀ m : Nat, m < 48 → 1 ≤ m → apartOk k m = true := by decide +kernel

theorem bit_1 (i : I) (k j : Nat) (hj : j < 32) (h : (patL k).getD (31 - j) 0 = 49) : (wdT i (patL k) 32).testBit j = true := by
  rw [wd_bit i _ 32 j hj, bit_form i _ j hj, if_pos h]
theorem bit_0 (i : I) (k j : Nat) (hj : j < 32) (h : (patL k).getD (31 - j) 0 = 48) : (wdT i (patL k) 32).testBit j = false := by
  rw [wd_bit i _ 32 j hj, bit_form i _ j hj, if_neg (by omega), if_neg (by omega)]

theorem tab15 : ∀ j : Nat, j < 16 → 10 ≤ j → (patL 15).getD (31 - j) 0 = 49 := by decide +kernel

theorem apart_14 (i m : I) (ho : i.op = 14) (hf : fitsB (rowOf 14) i = true) (he : wdT i (patL 14) 32 = wdT m (patL 15) 32) : False := by
  obtain ⟨n, e, e1, e2⟩ := fits_imm i ho hf
  have hr := rv_val i 14 115 10 6 (by decide) tabBack2.2
  have hb : rv 14 115 (wdT i (patL 14) 32) = wdT i (patL 14) 32 / 2 ^ 10 % 2 ^ 6 := rd_block _ _ 115 10 6 tabS.2.2.2.2.2.2.2
  have e4 : valV i 115 = ((63 - n : Nat) : Int) := by
    show IntKind.i64.wrap (63 - i.imm) = _
    rw [e, IntWalk.i64_in _ (by omega)]; omega
  have e5 : (((63 - n : Nat) : Int) % 18446744073709551616).toNat = 63 - n := by omega
  rw [hb, e4, e5, he] at hr
  have t10 := bit_1 m 15 10 (by decide) (tab15 10 (by decide) (by decide))
  have t11 := bit_1 m 15 11 (by decide) (tab15 11 (by decide) (by decide))
  have t12 := bit_1 m 15 12 (by decide) (tab15 12 (by decide) (by decide))
  have t13 := bit_1 m 15 13 (by decide) (tab15 13 (by decide) (by decide))
  have t14 := bit_1 m 15 14 (by decide) (tab15 14 (by decide) (by decide))
  have t15 := bit_1 m 15 15 (by decide) (tab15 15 (by decide) (by decide))
  rw [Nat.testBit_eq_decide_div_mod_eq, decide_eq_true_eq] at t10 t11 t12 t13 t14 t15
  generalize wdT m (patL 15) 32 = w at *
  omega

theorem word_op (i m : I) (k l : Nat) (ho : i.op = k) (hm : m.op = l) (h1 : 1 ≤ k) (hk : k < 48) (h1' : 1 ≤ l) (hl : l < 48) (hf : fitsB (rowOf k) i = true) (hf' : fitsB (rowOf l) m = true) (he : wdT i (patL k) 32 = wdT m (patL l) 32) : k = l := by
  have t := tabApart k hk h1 l hl h1'
  simp only [apartOk, conj, Bool.or_eq_true, Bool.and_eq_true, beq_iff_eq, List.any_eq_true, List.mem_range, decide_eq_true_eq] at t
  rcases t with h | ⟨rfl, rfl⟩ | ⟨rfl, rfl⟩ | ⟨j, hj, ⟨a, b⟩ | ⟨a, b⟩⟩
  · exact h
  · exact (apart_14 i m ho hf he).elim
  · exact (apart_14 m i hm hf' he.symm).elim
  · have e1 := bit_0 i k j hj a
    have e2 := bit_1 m l j hj b
    rw [he, e2] at e1
    exact absurd e1 (by decide)
  · have e1 := bit_1 i k j hj a
    have e2 := bit_0 m l j hj b
    rw [he, e2] at e1
    exact absurd e1 (by decide)

/-- The word of an instruction is decoded to it. -/
theorem dec_word (i : I) (h : fitsI i = true) : ∃ k, decR (wordI i) = some k ∧ asR k (wordI i) = i := by
  obtain ⟨k, ho, h1, hk, hf, -⟩ := fits_op i h
  have ew := wordI_eq i k ho
  have eb := as_back i k ho h1 hk hf
  refine ⟨k, decR_hit _ k h1 hk ?_ fun j hj1 hj2 => ?_, by rw [ew, eb]⟩
  · unfold hitR
    rw [ew, eb, ← fits_eq, h]
    simp
  · cases hh : hitR j (wordI i) with
    | false => rfl
    | true =>
      obtain ⟨f1, f2⟩ := hit_word _ _ hh
      obtain ⟨l, ho', h1', hl, hf', -⟩ := fits_op _ f1
      have : l = j := by
        have : ((j : Nat) : Int) = (l : Int) := ho'
        omega
      subst this
      rw [wordI_eq (asR l (wordI i)) l ho'] at f2
      exact absurd (word_op i _ k l ho ho' h1 hk h1' hl hf hf' (ew.symm.trans f2.symm)) (Nat.ne_of_gt hj2)

theorem cdec_word (i : I) (h : fitsI i = true) : cdecV (wordI i) = .tuple #[.agg i.cells, .int .i64 0] := by
  obtain ⟨k, h1, h2⟩ := dec_word i h
  rw [cdec_hit _ k (wordI_lt i) h1, h2]

theorem word_inj (i j : I) (hi : fitsI i = true) (hj : fitsI j = true) (h : wordI i = wordI j) : i = j := by
  obtain ⟨k, h1, h2⟩ := dec_word i hi
  obtain ⟨l, h3, h4⟩ := dec_word j hj
  rw [h, h3] at h1
  obtain rfl := Option.some.inj h1
  rw [← h2, h, h4]

end Go.Proofs.Ytjcebkkmpgafkaa
