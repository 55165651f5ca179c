/-
  LowerValues: the plain law of a call.
-/
import Derived.Test.YtgaejhhipnpopaaLwVe
namespace Go.Proofs.Ytgaejhhipnpopaa
open Go Go.RowKit
set_option linter.unusedVariables false
set_option linter.unusedSimpArgs false

theorem expr_law {xs : List Int} {l : List Nd} {k : Int} (hxl : xs.length = 34) (hxg : goodLoc xs) (hl : lenOk l) (ho : okX l k) :
    ∃ ys, runL xs (outL l k) = some ys ∧ ys.length = 34 ∧ ys.getD (24 + k).toNat 0 = evalE xs (tr l (l.length - 1)) ∧ keptP xs ys k 29 := by
  obtain ⟨hE, h0, h1⟩ := ho
  have hpos := hl.1.1
  have fa : fineE (tr l (l.length - 1)) := tr_fine hE.1 hl.2 _ _ (Nat.lt_succ_self _) (by omega)
  obtain ⟨ys, e, a⟩ := lay_runs (tr l (l.length - 1)) (24 + k) xs hxl (by omega) (by omega) hxg fa
  refine ⟨ys, e, a.1, a.2.1, fun i hi hne hd => hne (a.2.2 i hi ?_).symm⟩
  omega

theorem zero_law {xs : List Int} {b k : Int} (hxl : xs.length = 34) (hb : 0 ≤ b ∧ b ≤ 4095) (hk : 0 ≤ k ∧ k < 5) :
    ∃ zs, runL xs (numL 29 (65536 + 8 * b)) = some zs ∧ zs.length = 34 ∧ zs.getD 29 0 = 65536 + 8 * b ∧ keptP xs zs k 30 := by
  obtain ⟨zs, a, e⟩ := numL_any (r := 29) (v := 65536 + 8 * b) (by omega) (by omega) (by unfold goodU; omega) xs hxl
  refine ⟨zs, e, a.1, a.2.1, fun i hi hne hd => hne (a.2.2 i hi ?_).symm⟩
  omega

theorem and_mask (n : Nat) {v s : Int} (hs : s = ((2 ^ n : Nat) : Int)) (hn : n ≤ 10) (h : goodU v) : Ex.andQ .u64 v (s - 1) = v % s := by
  unfold goodU at h
  have h10 : 2 ^ n ≤ 2 ^ 10 := Nat.pow_le_pow_right (by decide) hn
  have hp := Nat.two_pow_pos n
  obtain ⟨m, rfl⟩ : ∃ m : Nat, v = m := ⟨v.toNat, by omega⟩
  subst hs
  have e1 : (((2 ^ n : Nat) : Int) - 1) = ((2 ^ n - 1 : Nat) : Int) := by omega
  rw [e1]
  unfold Ex.andQ
  rw [resid_id (by omega), resid_id (by omega), Ex.wrapQ_eq]
  have : Nat.land m (2 ^ n - 1) = m % 2 ^ n := Nat.and_two_pow_sub_one_eq_mod m n
  rw [this]
  have hm := Nat.mod_lt m hp
  exact wrap_id (x := ((m % 2 ^ n : Nat) : Int)) (by omega) (by omega)
theorem and_pow {v s : Int} (hq : isPow s) (h : goodU v) : Ex.andQ .u64 v (s - 1) = v % s := by
  rcases hq with rfl | rfl | rfl | rfl | rfl | rfl | rfl | rfl | rfl | rfl | rfl
  · exact and_mask 0 rfl (by decide) h
  · exact and_mask 1 rfl (by decide) h
  · exact and_mask 2 rfl (by decide) h
  · exact and_mask 3 rfl (by decide) h
  · exact and_mask 4 rfl (by decide) h
  · exact and_mask 5 rfl (by decide) h
  · exact and_mask 6 rfl (by decide) h
  · exact and_mask 7 rfl (by decide) h
  · exact and_mask 8 rfl (by decide) h
  · exact and_mask 9 rfl (by decide) h
  · exact and_mask 10 rfl (by decide) h

theorem putR_get {zs : List Int} {t v : Int} (hl : zs.length = 34) (h0 : 0 ≤ t) (h1 : t ≤ 30) : (putR zs t v).getD t.toNat 0 = v := gd_eq (by simp [hl]; omega) _
theorem putR_ne {zs : List Int} {t v : Int} {j : Nat} (h0 : 0 ≤ t) (hj : j < 31) (h : (j : Int) ≠ t) : (putR zs t v).getD j 0 = zs.getD j 0 := by
  unfold putR
  rw [gd_ne (by omega), gd_ne (by omega)]
theorem putR_len {zs : List Int} {t v : Int} (hl : zs.length = 34) : (putR zs t v).length = 34 := by simp [putR, hl]

theorem addr_law {xs : List Int} {l : List Nd} {b s k : Int} (hxl : xs.length = 34) (hxg : goodLoc xs) (hl : lenOk l) (ho : aOk b s l k) :
    ∃ zs, runL xs (addrL b s l k) = some zs ∧ zs.length = 34 ∧ zs.getD 29 0 = 65536 + 8 * locV xs l b s ∧ keptP xs zs k 30 := by
  obtain ⟨⟨⟨hq, hb0, hb1⟩, hk, hE⟩, hn⟩ := ho
  have hs := hq.bound
  have hpos := hl.1.1
  have h3 := need2_pos l
  have fa : fineE (tr l (l.length - 1)) := tr_fine hE.1 hl.2 _ _ (Nat.lt_succ_self _) (by omega)
  have ga := evalE_good hxg _ fa
  unfold locV addrL
  obtain ⟨z1, e1, a1⟩ := lay_runs (tr l (l.length - 1)) (24 + k) xs hxl (by omega) (by omega) hxg fa
  generalize hv : evalE xs (tr l (l.length - 1)) = v at *
  generalize ht : 24 + k = t at *
  obtain ⟨z2, a2, e2⟩ := numL_any (r := t + 1) (v := s - 1) (by omega) (by omega) (by unfold goodU; omega) z1 a1.1
  have v2 : z2.getD t.toNat 0 = v := by rw [a2.2.2 t.toNat (by omega) (by omega)]; exact a1.2.1
  have w2 : z2.getD (t + 1).toNat 0 = s - 1 := a2.2.1
  have hm0 := Int.emod_nonneg v (b := s) (by omega)
  have hm1 := Int.emod_lt_of_pos v (b := s) (by omega)
  have c1 : ¬ t < 0 := by omega
  have c2 : ¬ 30 < t := by omega
  have c3 : ¬ 31 < t := by omega
  have c4 : ¬ t + 1 < 0 := by omega
  have c5 : ¬ 31 < t + 1 := by omega
  have s3 : stepR z2 ⟨5, t, t, t + 1, 0, 0⟩ = some (putR z2 t (v % s)) := by
    have x1 : (z2.set 31 0).getD t.toNat 0 = v := by rw [gd_ne (by omega)]; exact v2
    have x2 : (z2.set 31 0).getD (t + 1).toNat 0 = s - 1 := by rw [gd_ne (by omega)]; exact w2
    have x3 := and_pow hq ga
    simp [-List.getD_eq_getElem?_getD, stepR, c1, c2, c3, c4, c5, x1, x2, x3, putR]
  have l3 : (putR z2 t (v % s)).length = 34 := putR_len a2.1
  have v3 : (putR z2 t (v % s)).getD t.toNat 0 = v % s := putR_get a2.1 (by omega) (by omega)
  have f3 : ∀ j : Nat, j < 31 → (j : Int) ≠ t → (putR z2 t (v % s)).getD j 0 = z2.getD j 0 := fun j hj h => putR_ne (by omega) hj h
  generalize putR z2 t (v % s) = z3 at *
  have s4 : stepR z3 ⟨14, t, t, 0, 3, 0⟩ = some (putR z3 t (8 * (v % s))) := by
    have x1 : (z3.set 31 0).getD t.toNat 0 = v % s := by rw [gd_ne (by omega)]; exact v3
    have x3 : Int.toNat (Ex.wrapQ .u64 (Ex.andQ .i64 3 63)) = 3 := by decide +kernel
    have x4 : Ex.shlQ .u64 (v % s) 3 = 8 * (v % s) := by
      rw [shl_law (by unfold goodU; omega) (by decide)]
      have : (2 : Int) ^ 3 = 8 := by decide
      rw [this]
      omega
    simp [-List.getD_eq_getElem?_getD, stepR, c1, c2, c3, x1, x3, x4, putR]
  have l4 : (putR z3 t (8 * (v % s))).length = 34 := putR_len l3
  have v4 : (putR z3 t (8 * (v % s))).getD t.toNat 0 = 8 * (v % s) := putR_get l3 (by omega) (by omega)
  have f4 : ∀ j : Nat, j < 31 → (j : Int) ≠ t → (putR z3 t (8 * (v % s))).getD j 0 = z3.getD j 0 := fun j hj h => putR_ne (by omega) hj h
  generalize putR z3 t (8 * (v % s)) = z4 at *
  obtain ⟨z5, a5, e5⟩ := numL_any (r := 29) (v := 65536 + 8 * b) (by omega) (by omega) (by unfold goodU; omega) z4 l4
  have v5 : z5.getD t.toNat 0 = 8 * (v % s) := by rw [a5.2.2 t.toNat (by omega) (by omega)]; exact v4
  have w5 : z5.getD 29 0 = 65536 + 8 * b := a5.2.1
  have s6 : stepR z5 ⟨3, 29, 29, t, 0, 0⟩ = some (putR z5 29 (65536 + 8 * (b + v % s))) := by
    have x1 : (z5.set 31 0).getD t.toNat 0 = 8 * (v % s) := by rw [gd_ne (by omega)]; exact v5
    have x2 : (z5.set 31 0).getD 29 0 = 65536 + 8 * b := by rw [gd_ne (by omega)]; exact w5
    have x3 : Ex.wrapQ .u64 (Ex.addQ (65536 + 8 * b) (8 * (v % s))) = 65536 + 8 * (b + v % s) := by
      rw [Ex.addQ_eq, wU (by omega) (by omega)]
      omega
    simp [-List.getD_eq_getElem?_getD, stepR, c1, c3, x1, x2, x3, putR]
  refine ⟨putR z5 29 (65536 + 8 * (b + v % s)), ?_, putR_len a5.1, putR_get (t := 29) a5.1 (by decide) (by decide), fun i hi hne hd => hne ?_⟩
  · rw [runL_app e1, runL_app e2]
    simp only [runL, s3, s4]
    rw [runL_app e5]
    simp only [runL, s6]
  · have hi2 : (i : Int) < t ∨ 30 ≤ (i : Int) := by omega
    rw [putR_ne (t := 29) (by decide) hi (by omega), a5.2.2 i hi (by omega), f4 i hi (by omega), f3 i hi (by omega), a2.2.2 i hi (by omega), a1.2.2 i hi (by omega)]

end Go.Proofs.Ytgaejhhipnpopaa
