/-
  CodeBack: an instruction that has a word is decoded to itself; two have two words.
-/
import Derived.Test.YtjcebkkmpgafkaaLawB
namespace Go.Proofs.Ytjcebkkmpgafkaa
open Go Go.RowKit Ev

/-- What the walk of CodeBack asks of Encode, Fits, Decode: j fits or not, i fits or not. -/
theorem below_in {B : Nat} {W0 W W' : World} (a : Below B W0 W) (hB : B ≤ W.heap.size) (h : Below W.heap.size W W') : Below B W0 W' := below_chain a h hB

set_option maxHeartbeats 2000000 in
theorem back_ff (i j : I) (h : i.fit) (h2 : j.fit) (hi : fitsI i = false) (hj : fitsI j = false) (w : World) : Calls Try.prog 8 #[.agg i.cells, .agg j.cells] w fun e w' => e = .returned (.bool true) ∧ Below w.heap.size w w' := by
  have c1 := enc_call i h
  have c2 := enc_call j h2
  have c4 := fits_call i
  rw [enc_not i hi] at c1
  rw [enc_not j hj] at c2
  rw [hi] at c4
  obtain ⟨op, rd, rn, rm, imm, cond⟩ := i
  obtain ⟨opj, rdj, rnj, rmj, immj, condj⟩ := j
  simp only [I.cells] at *
  have C1 := Lib.hid c1
  have C2 := Lib.hid c2
  have C3 := Lib.hid awake_any
  have C4 := Lib.hid c4
  clear c1 c2 c4 hi hj h h2
  have A0 : Hid (Boxed w.heap.size (.int .i64 op) (.int .i64 rd) (.int .i64 rn) (.int .i64 rm) (.int .i64 imm) (.int .i64 cond) ((w.alloc (.cells #[.int .i64 op, .int .i64 rd, .int .i64 rn, .int .i64 rm, .int .i64 imm, .int .i64 cond] 25)).alloc (.cells #[.int .i64 opj, .int .i64 rdj, .int .i64 rnj, .int .i64 rmj, .int .i64 immj, .int .i64 condj] 25))) := boxed_over (boxed_new (Below.refl _ _)) (Below.refl _ _)
  have J0 : Hid (Boxed (w.heap.size + 1) (.int .i64 opj) (.int .i64 rdj) (.int .i64 rnj) (.int .i64 rmj) (.int .i64 immj) (.int .i64 condj) ((w.alloc (.cells #[.int .i64 op, .int .i64 rd, .int .i64 rn, .int .i64 rm, .int .i64 imm, .int .i64 cond] 25)).alloc (.cells #[.int .i64 opj, .int .i64 rdj, .int .i64 rnj, .int .i64 rmj, .int .i64 immj, .int .i64 condj] 25))) := by
    have := boxed_new (Below.refl _ ((w.alloc (.cells #[.int .i64 op, .int .i64 rd, .int .i64 rn, .int .i64 rm, .int .i64 imm, .int .i64 cond] 25)).alloc (.cells #[.int .i64 opj, .int .i64 rdj, .int .i64 rnj, .int .i64 rmj, .int .i64 immj, .int .i64 condj] 25)))
    exact Lib.hid (by simpa using this)
  have B0 : Hid (Below w.heap.size w ((w.alloc (.cells #[.int .i64 op, .int .i64 rd, .int .i64 rn, .int .i64 rm, .int .i64 imm, .int .i64 cond] 25)).alloc (.cells #[.int .i64 opj, .int .i64 rdj, .int .i64 rnj, .int .i64 rmj, .int .i64 immj, .int .i64 condj] 25))) := ((Below.refl _ _).alloc (Nat.le_refl _) _).alloc (by simp) _
  go_enter Try.func8, Try.ntmps8
  go_wp2_with fail
  refine (C1.out _).mono ?_
  rintro e w1 ⟨rfl, hb⟩
  have A1 := Lib.hid (boxed_same A0.out hb)
  have J1 := Lib.hid (boxed_same J0.out hb)
  have B1 := Lib.hid (below_in B0.out B0.out.size hb)
  clear hb
  obtain ⟨v0, v1, v2, v3, v4, v5, x0, x1, x2, x3, x4, x5, hl2⟩ := J1.out
  go_wp2_with fail
  refine (C2.out _).mono ?_
  rintro e w2 ⟨rfl, hb⟩
  have A2 := Lib.hid (boxed_same A1.out hb)
  have J2 := Lib.hid (boxed_same J1.out hb)
  have B2 := Lib.hid (below_in B1.out B1.out.size hb)
  clear hb
  clear v0 v1 v2 v3 v4 v5 x0 x1 x2 x3 x4 x5 hl2
  obtain ⟨z0, z1, z2, z3, z4, z5, y0, y1, y2, y3, y4, y5, hl⟩ := A2.out
  go_wp2_with fail
  refine (C3.out _).mono ?_
  rintro e w3 ⟨rfl, hb⟩
  have A3 := Lib.hid (boxed_same A2.out hb)
  have J3 := Lib.hid (boxed_same J2.out hb)
  have B3 := Lib.hid (below_in B2.out B2.out.size hb)
  clear hb
  clear z0 z1 z2 z3 z4 z5 y0 y1 y2 y3 y4 y5 hl
  obtain ⟨z0, z1, z2, z3, z4, z5, y0, y1, y2, y3, y4, y5, hl⟩ := A3.out
  go_wp2_with fail
  refine (C4.out _).mono ?_
  rintro e w4 ⟨rfl, hb⟩
  have A4 := Lib.hid (boxed_same A3.out hb)
  have J4 := Lib.hid (boxed_same J3.out hb)
  have B4 := Lib.hid (below_in B3.out B3.out.size hb)
  clear hb
  clear z0 z1 z2 z3 z4 z5 y0 y1 y2 y3 y4 y5 hl
  obtain ⟨z0, z1, z2, z3, z4, z5, y0, y1, y2, y3, y4, y5, hl⟩ := A4.out
  go_wp2_with fail
  go_returns
  exact ⟨rfl, B4.out⟩

set_option maxHeartbeats 2000000 in
theorem back_ft (i j : I) (h : i.fit) (h2 : j.fit) (hi : fitsI i = false) (hj : fitsI j = true) (w : World) : Calls Try.prog 8 #[.agg i.cells, .agg j.cells] w fun e w' => e = .returned (.bool true) ∧ Below w.heap.size w w' := by
  have c1 := enc_call i h
  have c2 := enc_call j h2
  have c4 := fits_call i
  rw [enc_not i hi] at c1
  rw [enc_fit j hj] at c2
  rw [hi] at c4
  generalize wordI j = y at *
  obtain ⟨op, rd, rn, rm, imm, cond⟩ := i
  obtain ⟨opj, rdj, rnj, rmj, immj, condj⟩ := j
  simp only [I.cells] at *
  have C1 := Lib.hid c1
  have C2 := Lib.hid c2
  have C3 := Lib.hid awake_any
  have C4 := Lib.hid c4
  clear c1 c2 c4 hi hj h h2
  have A0 : Hid (Boxed w.heap.size (.int .i64 op) (.int .i64 rd) (.int .i64 rn) (.int .i64 rm) (.int .i64 imm) (.int .i64 cond) ((w.alloc (.cells #[.int .i64 op, .int .i64 rd, .int .i64 rn, .int .i64 rm, .int .i64 imm, .int .i64 cond] 25)).alloc (.cells #[.int .i64 opj, .int .i64 rdj, .int .i64 rnj, .int .i64 rmj, .int .i64 immj, .int .i64 condj] 25))) := boxed_over (boxed_new (Below.refl _ _)) (Below.refl _ _)
  have J0 : Hid (Boxed (w.heap.size + 1) (.int .i64 opj) (.int .i64 rdj) (.int .i64 rnj) (.int .i64 rmj) (.int .i64 immj) (.int .i64 condj) ((w.alloc (.cells #[.int .i64 op, .int .i64 rd, .int .i64 rn, .int .i64 rm, .int .i64 imm, .int .i64 cond] 25)).alloc (.cells #[.int .i64 opj, .int .i64 rdj, .int .i64 rnj, .int .i64 rmj, .int .i64 immj, .int .i64 condj] 25))) := by
    have := boxed_new (Below.refl _ ((w.alloc (.cells #[.int .i64 op, .int .i64 rd, .int .i64 rn, .int .i64 rm, .int .i64 imm, .int .i64 cond] 25)).alloc (.cells #[.int .i64 opj, .int .i64 rdj, .int .i64 rnj, .int .i64 rmj, .int .i64 immj, .int .i64 condj] 25)))
    exact Lib.hid (by simpa using this)
  have B0 : Hid (Below w.heap.size w ((w.alloc (.cells #[.int .i64 op, .int .i64 rd, .int .i64 rn, .int .i64 rm, .int .i64 imm, .int .i64 cond] 25)).alloc (.cells #[.int .i64 opj, .int .i64 rdj, .int .i64 rnj, .int .i64 rmj, .int .i64 immj, .int .i64 condj] 25))) := ((Below.refl _ _).alloc (Nat.le_refl _) _).alloc (by simp) _
  go_enter Try.func8, Try.ntmps8
  go_wp2_with fail
  refine (C1.out _).mono ?_
  rintro e w1 ⟨rfl, hb⟩
  have A1 := Lib.hid (boxed_same A0.out hb)
  have J1 := Lib.hid (boxed_same J0.out hb)
  have B1 := Lib.hid (below_in B0.out B0.out.size hb)
  clear hb
  obtain ⟨v0, v1, v2, v3, v4, v5, x0, x1, x2, x3, x4, x5, hl2⟩ := J1.out
  go_wp2_with fail
  refine (C2.out _).mono ?_
  rintro e w2 ⟨rfl, hb⟩
  have A2 := Lib.hid (boxed_same A1.out hb)
  have J2 := Lib.hid (boxed_same J1.out hb)
  have B2 := Lib.hid (below_in B1.out B1.out.size hb)
  clear hb
  clear v0 v1 v2 v3 v4 v5 x0 x1 x2 x3 x4 x5 hl2
  obtain ⟨z0, z1, z2, z3, z4, z5, y0, y1, y2, y3, y4, y5, hl⟩ := A2.out
  go_wp2_with fail
  refine (C3.out _).mono ?_
  rintro e w3 ⟨rfl, hb⟩
  have A3 := Lib.hid (boxed_same A2.out hb)
  have J3 := Lib.hid (boxed_same J2.out hb)
  have B3 := Lib.hid (below_in B2.out B2.out.size hb)
  clear hb
  clear z0 z1 z2 z3 z4 z5 y0 y1 y2 y3 y4 y5 hl
  obtain ⟨z0, z1, z2, z3, z4, z5, y0, y1, y2, y3, y4, y5, hl⟩ := A3.out
  go_wp2_with fail
  refine (C4.out _).mono ?_
  rintro e w4 ⟨rfl, hb⟩
  have A4 := Lib.hid (boxed_same A3.out hb)
  have J4 := Lib.hid (boxed_same J3.out hb)
  have B4 := Lib.hid (below_in B3.out B3.out.size hb)
  clear hb
  clear z0 z1 z2 z3 z4 z5 y0 y1 y2 y3 y4 y5 hl
  obtain ⟨z0, z1, z2, z3, z4, z5, y0, y1, y2, y3, y4, y5, hl⟩ := A4.out
  go_wp2_with fail
  go_returns
  exact ⟨rfl, B4.out⟩

set_option maxHeartbeats 2000000 in
theorem back_tf (i j : I) (h : i.fit) (h2 : j.fit) (hi : fitsI i = true) (hj : fitsI j = false) (w : World) : Calls Try.prog 8 #[.agg i.cells, .agg j.cells] w fun e w' => e = .returned (.bool true) ∧ Below w.heap.size w w' := by
  have c1 := enc_call i h
  have c2 := enc_call j h2
  have c4 := fits_call i
  rw [enc_fit i hi] at c1
  rw [enc_not j hj] at c2
  rw [hi] at c4
  have c5 := cdec_any (wordI i) (wordI_lt i)
  rw [cdec_word i hi] at c5
  generalize wordI i = x at *
  obtain ⟨op, rd, rn, rm, imm, cond⟩ := i
  obtain ⟨opj, rdj, rnj, rmj, immj, condj⟩ := j
  simp only [I.cells] at *
  have C1 := Lib.hid c1
  have C2 := Lib.hid c2
  have C3 := Lib.hid awake_any
  have C4 := Lib.hid c4
  have C5 := Lib.hid c5
  clear c1 c2 c4 c5 hi hj h h2
  have A0 : Hid (Boxed w.heap.size (.int .i64 op) (.int .i64 rd) (.int .i64 rn) (.int .i64 rm) (.int .i64 imm) (.int .i64 cond) ((w.alloc (.cells #[.int .i64 op, .int .i64 rd, .int .i64 rn, .int .i64 rm, .int .i64 imm, .int .i64 cond] 25)).alloc (.cells #[.int .i64 opj, .int .i64 rdj, .int .i64 rnj, .int .i64 rmj, .int .i64 immj, .int .i64 condj] 25))) := boxed_over (boxed_new (Below.refl _ _)) (Below.refl _ _)
  have J0 : Hid (Boxed (w.heap.size + 1) (.int .i64 opj) (.int .i64 rdj) (.int .i64 rnj) (.int .i64 rmj) (.int .i64 immj) (.int .i64 condj) ((w.alloc (.cells #[.int .i64 op, .int .i64 rd, .int .i64 rn, .int .i64 rm, .int .i64 imm, .int .i64 cond] 25)).alloc (.cells #[.int .i64 opj, .int .i64 rdj, .int .i64 rnj, .int .i64 rmj, .int .i64 immj, .int .i64 condj] 25))) := by
    have := boxed_new (Below.refl _ ((w.alloc (.cells #[.int .i64 op, .int .i64 rd, .int .i64 rn, .int .i64 rm, .int .i64 imm, .int .i64 cond] 25)).alloc (.cells #[.int .i64 opj, .int .i64 rdj, .int .i64 rnj, .int .i64 rmj, .int .i64 immj, .int .i64 condj] 25)))
    exact Lib.hid (by simpa using this)
  have B0 : Hid (Below w.heap.size w ((w.alloc (.cells #[.int .i64 op, .int .i64 rd, .int .i64 rn, .int .i64 rm, .int .i64 imm, .int .i64 cond] 25)).alloc (.cells #[.int .i64 opj, .int .i64 rdj, .int .i64 rnj, .int .i64 rmj, .int .i64 immj, .int .i64 condj] 25))) := ((Below.refl _ _).alloc (Nat.le_refl _) _).alloc (by simp) _
  go_enter Try.func8, Try.ntmps8
  go_wp2_with fail
  refine (C1.out _).mono ?_
  rintro e w1 ⟨rfl, hb⟩
  have A1 := Lib.hid (boxed_same A0.out hb)
  have J1 := Lib.hid (boxed_same J0.out hb)
  have B1 := Lib.hid (below_in B0.out B0.out.size hb)
  clear hb
  obtain ⟨v0, v1, v2, v3, v4, v5, x0, x1, x2, x3, x4, x5, hl2⟩ := J1.out
  go_wp2_with fail
  refine (C2.out _).mono ?_
  rintro e w2 ⟨rfl, hb⟩
  have A2 := Lib.hid (boxed_same A1.out hb)
  have J2 := Lib.hid (boxed_same J1.out hb)
  have B2 := Lib.hid (below_in B1.out B1.out.size hb)
  clear hb
  clear v0 v1 v2 v3 v4 v5 x0 x1 x2 x3 x4 x5 hl2
  obtain ⟨z0, z1, z2, z3, z4, z5, y0, y1, y2, y3, y4, y5, hl⟩ := A2.out
  go_wp2_with fail
  refine (C3.out _).mono ?_
  rintro e w3 ⟨rfl, hb⟩
  have A3 := Lib.hid (boxed_same A2.out hb)
  have J3 := Lib.hid (boxed_same J2.out hb)
  have B3 := Lib.hid (below_in B2.out B2.out.size hb)
  clear hb
  clear z0 z1 z2 z3 z4 z5 y0 y1 y2 y3 y4 y5 hl
  obtain ⟨z0, z1, z2, z3, z4, z5, y0, y1, y2, y3, y4, y5, hl⟩ := A3.out
  go_wp2_with fail
  refine (C4.out _).mono ?_
  rintro e w4 ⟨rfl, hb⟩
  have A4 := Lib.hid (boxed_same A3.out hb)
  have J4 := Lib.hid (boxed_same J3.out hb)
  have B4 := Lib.hid (below_in B3.out B3.out.size hb)
  clear hb
  clear z0 z1 z2 z3 z4 z5 y0 y1 y2 y3 y4 y5 hl
  obtain ⟨z0, z1, z2, z3, z4, z5, y0, y1, y2, y3, y4, y5, hl⟩ := A4.out
  go_wp2_with fail
  refine (C5.out _).mono ?_
  rintro e w5 ⟨rfl, hb⟩
  have A5 := Lib.hid (boxed_same A4.out hb)
  have B5 := Lib.hid (below_in B4.out B4.out.size hb)
  clear hb
  clear z0 z1 z2 z3 z4 z5 y0 y1 y2 y3 y4 y5 hl
  obtain ⟨z0, z1, z2, z3, z4, z5, y0, y1, y2, y3, y4, y5, hl⟩ := A5.out
  go_wp2_with fail
  go_returns
  exact ⟨rfl, B5.out.alloc B5.out.size _⟩

set_option maxHeartbeats 2000000 in
theorem back_same (i : I) (h : i.fit) (hi : fitsI i = true) (w : World) : Calls Try.prog 8 #[.agg i.cells, .agg i.cells] w fun e w' => e = .returned (.bool true) ∧ Below w.heap.size w w' := by
  have c1 := enc_call i h
  have c2 := enc_call i h
  have c4 := fits_call i
  rw [enc_fit i hi] at c1
  rw [enc_fit i hi] at c2
  rw [hi] at c4
  have c5 := cdec_any (wordI i) (wordI_lt i)
  rw [cdec_word i hi] at c5
  generalize wordI i = x at *
  obtain ⟨op, rd, rn, rm, imm, cond⟩ := i
  simp only [I.cells] at *
  have C1 := Lib.hid c1
  have C2 := Lib.hid c2
  have C3 := Lib.hid awake_any
  have C4 := Lib.hid c4
  have C5 := Lib.hid c5
  clear c1 c2 c4 c5 hi h
  have A0 : Hid (Boxed w.heap.size (.int .i64 op) (.int .i64 rd) (.int .i64 rn) (.int .i64 rm) (.int .i64 imm) (.int .i64 cond) ((w.alloc (.cells #[.int .i64 op, .int .i64 rd, .int .i64 rn, .int .i64 rm, .int .i64 imm, .int .i64 cond] 25)).alloc (.cells #[.int .i64 op, .int .i64 rd, .int .i64 rn, .int .i64 rm, .int .i64 imm, .int .i64 cond] 25))) := boxed_over (boxed_new (Below.refl _ _)) (Below.refl _ _)
  have J0 : Hid (Boxed (w.heap.size + 1) (.int .i64 op) (.int .i64 rd) (.int .i64 rn) (.int .i64 rm) (.int .i64 imm) (.int .i64 cond) ((w.alloc (.cells #[.int .i64 op, .int .i64 rd, .int .i64 rn, .int .i64 rm, .int .i64 imm, .int .i64 cond] 25)).alloc (.cells #[.int .i64 op, .int .i64 rd, .int .i64 rn, .int .i64 rm, .int .i64 imm, .int .i64 cond] 25))) := by
    have := boxed_new (Below.refl _ ((w.alloc (.cells #[.int .i64 op, .int .i64 rd, .int .i64 rn, .int .i64 rm, .int .i64 imm, .int .i64 cond] 25)).alloc (.cells #[.int .i64 op, .int .i64 rd, .int .i64 rn, .int .i64 rm, .int .i64 imm, .int .i64 cond] 25)))
    exact Lib.hid (by simpa using this)
  have B0 : Hid (Below w.heap.size w ((w.alloc (.cells #[.int .i64 op, .int .i64 rd, .int .i64 rn, .int .i64 rm, .int .i64 imm, .int .i64 cond] 25)).alloc (.cells #[.int .i64 op, .int .i64 rd, .int .i64 rn, .int .i64 rm, .int .i64 imm, .int .i64 cond] 25))) := ((Below.refl _ _).alloc (Nat.le_refl _) _).alloc (by simp) _
  go_enter Try.func8, Try.ntmps8
  go_wp2_with fail
  refine (C1.out _).mono ?_
  rintro e w1 ⟨rfl, hb⟩
  have A1 := Lib.hid (boxed_same A0.out hb)
  have J1 := Lib.hid (boxed_same J0.out hb)
  have B1 := Lib.hid (below_in B0.out B0.out.size hb)
  clear hb
  obtain ⟨v0, v1, v2, v3, v4, v5, x0, x1, x2, x3, x4, x5, hl2⟩ := J1.out
  go_wp2_with fail
  refine (C2.out _).mono ?_
  rintro e w2 ⟨rfl, hb⟩
  have A2 := Lib.hid (boxed_same A1.out hb)
  have J2 := Lib.hid (boxed_same J1.out hb)
  have B2 := Lib.hid (below_in B1.out B1.out.size hb)
  clear hb
  clear v0 v1 v2 v3 v4 v5 x0 x1 x2 x3 x4 x5 hl2
  obtain ⟨z0, z1, z2, z3, z4, z5, y0, y1, y2, y3, y4, y5, hl⟩ := A2.out
  go_wp2_with fail
  refine (C3.out _).mono ?_
  rintro e w3 ⟨rfl, hb⟩
  have A3 := Lib.hid (boxed_same A2.out hb)
  have J3 := Lib.hid (boxed_same J2.out hb)
  have B3 := Lib.hid (below_in B2.out B2.out.size hb)
  clear hb
  clear z0 z1 z2 z3 z4 z5 y0 y1 y2 y3 y4 y5 hl
  obtain ⟨z0, z1, z2, z3, z4, z5, y0, y1, y2, y3, y4, y5, hl⟩ := A3.out
  go_wp2_with fail
  refine (C4.out _).mono ?_
  rintro e w4 ⟨rfl, hb⟩
  have A4 := Lib.hid (boxed_same A3.out hb)
  have J4 := Lib.hid (boxed_same J3.out hb)
  have B4 := Lib.hid (below_in B3.out B3.out.size hb)
  clear hb
  clear z0 z1 z2 z3 z4 z5 y0 y1 y2 y3 y4 y5 hl
  obtain ⟨z0, z1, z2, z3, z4, z5, y0, y1, y2, y3, y4, y5, hl⟩ := A4.out
  obtain ⟨v0, v1, v2, v3, v4, v5, x0, x1, x2, x3, x4, x5, hl2⟩ := J4.out
  go_wp2_with fail
  refine (C5.out _).mono ?_
  rintro e w5 ⟨rfl, hb⟩
  have A5 := Lib.hid (boxed_same A4.out hb)
  have B5 := Lib.hid (below_in B4.out B4.out.size hb)
  clear hb
  clear z0 z1 z2 z3 z4 z5 y0 y1 y2 y3 y4 y5 hl
  clear v0 v1 v2 v3 v4 v5 x0 x1 x2 x3 x4 x5 hl2
  obtain ⟨z0, z1, z2, z3, z4, z5, y0, y1, y2, y3, y4, y5, hl⟩ := A5.out
  go_wp2_with fail
  go_returns
  exact ⟨rfl, B5.out.alloc B5.out.size _⟩

set_option maxHeartbeats 2000000 in
theorem back_tt (i j : I) (h : i.fit) (h2 : j.fit) (hi : fitsI i = true) (hj : fitsI j = true) (hs : i ≠ j) (w : World) : Calls Try.prog 8 #[.agg i.cells, .agg j.cells] w fun e w' => e = .returned (.bool true) ∧ Below w.heap.size w w' := by
  have c1 := enc_call i h
  have c2 := enc_call j h2
  have c4 := fits_call i
  rw [enc_fit i hi] at c1
  rw [enc_fit j hj] at c2
  rw [hi] at c4
  have c5 := cdec_any (wordI i) (wordI_lt i)
  rw [cdec_word i hi] at c5
  have hw : wordI i ≠ wordI j := fun h => hs (word_inj i j hi hj h)
  have hv : ¬ (i.op = j.op ∧ i.rd = j.rd ∧ i.rn = j.rn ∧ i.rm = j.rm ∧ i.imm = j.imm ∧ i.cond = j.cond) := fun h => hs (by obtain ⟨a, b, c, d, e, f⟩ := i; obtain ⟨a2, b2, c2, d2, e2, f2⟩ := j; simp only at h; obtain ⟨rfl, rfl, rfl, rfl, rfl, rfl⟩ := h; rfl)
  generalize wordI i = x at *
  generalize wordI j = y at *
  obtain ⟨op, rd, rn, rm, imm, cond⟩ := i
  obtain ⟨opj, rdj, rnj, rmj, immj, condj⟩ := j
  simp only [I.cells] at *
  have C1 := Lib.hid c1
  have C2 := Lib.hid c2
  have C3 := Lib.hid awake_any
  have C4 := Lib.hid c4
  have C5 := Lib.hid c5
  clear c1 c2 c4 c5 hi hj h h2
  have A0 : Hid (Boxed w.heap.size (.int .i64 op) (.int .i64 rd) (.int .i64 rn) (.int .i64 rm) (.int .i64 imm) (.int .i64 cond) ((w.alloc (.cells #[.int .i64 op, .int .i64 rd, .int .i64 rn, .int .i64 rm, .int .i64 imm, .int .i64 cond] 25)).alloc (.cells #[.int .i64 opj, .int .i64 rdj, .int .i64 rnj, .int .i64 rmj, .int .i64 immj, .int .i64 condj] 25))) := boxed_over (boxed_new (Below.refl _ _)) (Below.refl _ _)
  have J0 : Hid (Boxed (w.heap.size + 1) (.int .i64 opj) (.int .i64 rdj) (.int .i64 rnj) (.int .i64 rmj) (.int .i64 immj) (.int .i64 condj) ((w.alloc (.cells #[.int .i64 op, .int .i64 rd, .int .i64 rn, .int .i64 rm, .int .i64 imm, .int .i64 cond] 25)).alloc (.cells #[.int .i64 opj, .int .i64 rdj, .int .i64 rnj, .int .i64 rmj, .int .i64 immj, .int .i64 condj] 25))) := by
    have := boxed_new (Below.refl _ ((w.alloc (.cells #[.int .i64 op, .int .i64 rd, .int .i64 rn, .int .i64 rm, .int .i64 imm, .int .i64 cond] 25)).alloc (.cells #[.int .i64 opj, .int .i64 rdj, .int .i64 rnj, .int .i64 rmj, .int .i64 immj, .int .i64 condj] 25)))
    exact Lib.hid (by simpa using this)
  have B0 : Hid (Below w.heap.size w ((w.alloc (.cells #[.int .i64 op, .int .i64 rd, .int .i64 rn, .int .i64 rm, .int .i64 imm, .int .i64 cond] 25)).alloc (.cells #[.int .i64 opj, .int .i64 rdj, .int .i64 rnj, .int .i64 rmj, .int .i64 immj, .int .i64 condj] 25))) := ((Below.refl _ _).alloc (Nat.le_refl _) _).alloc (by simp) _
  have t1 : ((x : Int) == (y : Int)) = false := beq_eq_false_iff_ne.2 (by omega)
  have hv' : op ≠ opj ∨ (op = opj ∧ rd ≠ rdj) ∨ (op = opj ∧ rd = rdj ∧ rn ≠ rnj) ∨ (op = opj ∧ rd = rdj ∧ rn = rnj ∧ rm ≠ rmj) ∨ (op = opj ∧ rd = rdj ∧ rn = rnj ∧ rm = rmj ∧ imm ≠ immj) ∨ (op = opj ∧ rd = rdj ∧ rn = rnj ∧ rm = rmj ∧ imm = immj ∧ cond ≠ condj) := by omega
  clear hv hs hw
  rcases hv' with h | ⟨rfl, h⟩ | ⟨rfl, rfl, h⟩ | ⟨rfl, rfl, rfl, h⟩ | ⟨rfl, rfl, rfl, rfl, h⟩ | ⟨rfl, rfl, rfl, rfl, rfl, h⟩
  all_goals (
    have t2 := beq_eq_false_iff_ne.2 h
    clear h
    go_enter Try.func8, Try.ntmps8
    go_wp2_with fail
    refine (C1.out _).mono ?_
    rintro e w1 ⟨rfl, hb⟩
    have A1 := Lib.hid (boxed_same A0.out hb)
    have J1 := Lib.hid (boxed_same J0.out hb)
    have B1 := Lib.hid (below_in B0.out B0.out.size hb)
    clear hb
    obtain ⟨v0, v1, v2, v3, v4, v5, x0, x1, x2, x3, x4, x5, hl2⟩ := J1.out
    go_wp2_with fail
    refine (C2.out _).mono ?_
    rintro e w2 ⟨rfl, hb⟩
    have A2 := Lib.hid (boxed_same A1.out hb)
    have J2 := Lib.hid (boxed_same J1.out hb)
    have B2 := Lib.hid (below_in B1.out B1.out.size hb)
    clear hb
    clear v0 v1 v2 v3 v4 v5 x0 x1 x2 x3 x4 x5 hl2
    obtain ⟨z0, z1, z2, z3, z4, z5, y0, y1, y2, y3, y4, y5, hl⟩ := A2.out
    go_wp2_with fail
    refine (C3.out _).mono ?_
    rintro e w3 ⟨rfl, hb⟩
    have A3 := Lib.hid (boxed_same A2.out hb)
    have J3 := Lib.hid (boxed_same J2.out hb)
    have B3 := Lib.hid (below_in B2.out B2.out.size hb)
    clear hb
    clear z0 z1 z2 z3 z4 z5 y0 y1 y2 y3 y4 y5 hl
    obtain ⟨z0, z1, z2, z3, z4, z5, y0, y1, y2, y3, y4, y5, hl⟩ := A3.out
    go_wp2_with fail
    refine (C4.out _).mono ?_
    rintro e w4 ⟨rfl, hb⟩
    have A4 := Lib.hid (boxed_same A3.out hb)
    have J4 := Lib.hid (boxed_same J3.out hb)
    have B4 := Lib.hid (below_in B3.out B3.out.size hb)
    clear hb
    clear z0 z1 z2 z3 z4 z5 y0 y1 y2 y3 y4 y5 hl
    obtain ⟨z0, z1, z2, z3, z4, z5, y0, y1, y2, y3, y4, y5, hl⟩ := A4.out
    obtain ⟨v0, v1, v2, v3, v4, v5, x0, x1, x2, x3, x4, x5, hl2⟩ := J4.out
    go_wp2_with fail
    refine (C5.out _).mono ?_
    rintro e w5 ⟨rfl, hb⟩
    have A5 := Lib.hid (boxed_same A4.out hb)
    have B5 := Lib.hid (below_in B4.out B4.out.size hb)
    clear hb
    clear z0 z1 z2 z3 z4 z5 y0 y1 y2 y3 y4 y5 hl
    clear v0 v1 v2 v3 v4 v5 x0 x1 x2 x3 x4 x5 hl2
    obtain ⟨z0, z1, z2, z3, z4, z5, y0, y1, y2, y3, y4, y5, hl⟩ := A5.out
    go_wp2_with fail
    go_returns
    exact ⟨rfl, B5.out.alloc B5.out.size _⟩)

theorem back_any (i j : I) (h : i.fit) (h2 : j.fit) (w : World) : Calls Try.prog 8 #[.agg i.cells, .agg j.cells] w fun e w' => e = .returned (.bool true) ∧ Below w.heap.size w w' := by
  cases hi : fitsI i
  · cases hj : fitsI j
    · exact back_ff i j h h2 hi hj w
    · exact back_ft i j h h2 hi hj w
  · cases hj : fitsI j
    · exact back_tf i j h h2 hi hj w
    · by_cases hs : i = j
      · subst hs; exact back_same i h hi w
      · exact back_tt i j h h2 hi hj hs w

end Go.Proofs.Ytjcebkkmpgafkaa
