/-
  CodeEncodes: Fits and Encode of any instruction.
-/
import Derived.Test.YtjcebkkmpgafkaaLawB
import Derived.Deep.RegionWith
namespace Go.Proofs.Ytjcebkkmpgafkaa
open Go Go.RowKit Ev

set_option maxHeartbeats 2000000 in
theorem encodes_not (i : I) (h : i.fit) (hf : fitsI i = false) (w : World) : Calls Try.prog 6 #[.agg i.cells] w fun e w' => e = .returned (.bool true) ∧ Below w.heap.size w w' := by
  have c1 := enc_call i h
  have c2 := ref_call i
  have c4 := fits_call i
  have c5 := rfitsI_call i h
  rw [enc_not i hf] at c1
  rw [hf] at c4 c5
  obtain ⟨op, rd, rn, rm, imm, cond⟩ := i
  simp only [I.cells] at *
  have C1 := Lib.hid c1
  have C2 := Lib.hid c2
  have C3 := Lib.hid awake_any
  have C4 := Lib.hid c4
  have C5 := Lib.hid c5
  clear c1 c2 c4 c5 hf h
  go_enter Try.func6, Try.ntmps6
  go_wp2_with fail
  refine (C1.out _).mono ?_
  rintro e w1 ⟨rfl, hb⟩
  have A1 := Lib.hid (boxed_new hb)
  have B1 := Lib.hid (below_over (Below.refl _ w) (Nat.le_refl _) hb)
  clear hb
  obtain ⟨z0, z1, z2, z3, z4, z5, y0, y1, y2, y3, y4, y5, hl⟩ := A1.out
  go_wp2_with fail
  refine (C2.out _).mono ?_
  rintro e w2 ⟨rfl, hb⟩
  clear z0 z1 z2 z3 z4 z5 y0 y1 y2 y3 y4 y5 hl
  have A2 := Lib.hid (boxed_same A1.out hb)
  have B2 := Lib.hid (below_chain B1.out hb B1.out.size)
  clear hb A1 B1
  go_wp2_with fail
  have A3 : Hid (Boxed w.heap.size (.int .i64 op) (.int .i64 rd) (.int .i64 rn) (.int .i64 rm) (.int .i64 imm) (.int .i64 cond) (w2.alloc (.cells #[.int .i64 op, .int .i64 rd, .int .i64 rn, .int .i64 rm, .int .i64 imm, .int .i64 cond] 34))) := boxed_over A2.out (Below.refl _ _)
  have D3 : Hid (Boxed w2.heap.size (.int .i64 op) (.int .i64 rd) (.int .i64 rn) (.int .i64 rm) (.int .i64 imm) (.int .i64 cond) (w2.alloc (.cells #[.int .i64 op, .int .i64 rd, .int .i64 rn, .int .i64 rm, .int .i64 imm, .int .i64 cond] 34))) := boxed_new (Below.refl _ _)
  have B3 : Hid (Below w.heap.size w (w2.alloc (.cells #[.int .i64 op, .int .i64 rd, .int .i64 rn, .int .i64 rm, .int .i64 imm, .int .i64 cond] 34))) := below_over B2.out B2.out.size (Below.refl _ _)
  clear A2 B2
  generalize w2.alloc (.cells #[.int .i64 op, .int .i64 rd, .int .i64 rn, .int .i64 rm, .int .i64 imm, .int .i64 cond] 34) = W at *
  generalize w2.heap.size = b2 at *
  obtain ⟨z0, z1, z2, z3, z4, z5, y0, y1, y2, y3, y4, y5, hl⟩ := A3.out
  obtain ⟨v0, v1, v2, v3, v4, v5, x0, x1, x2, x3, x4, x5, hl2⟩ := D3.out
  go_region_with (first
    | (go_at_call 14; refine (C3.out _).mono ?_; rintro e w' ⟨rfl, hb⟩; have A3 := Lib.hid (boxed_at A3.out hb rfl); have D3 := Lib.hid (boxed_at D3.out hb rfl); have B3 := Lib.hid (below_at B3.out hb B3.out.size rfl rfl rfl rfl); clear hb; obtain ⟨z0, z1, z2, z3, z4, z5, y0, y1, y2, y3, y4, y5, hl⟩ := A3.out; obtain ⟨v0, v1, v2, v3, v4, v5, x0, x1, x2, x3, x4, x5, hl2⟩ := D3.out)
    | (go_at_call 22; refine (C4.out _).mono ?_; rintro e w' ⟨rfl, hb⟩; have A3 := Lib.hid (boxed_at A3.out hb rfl); have D3 := Lib.hid (boxed_at D3.out hb rfl); have B3 := Lib.hid (below_at B3.out hb B3.out.size rfl rfl rfl rfl); clear hb; obtain ⟨z0, z1, z2, z3, z4, z5, y0, y1, y2, y3, y4, y5, hl⟩ := A3.out; obtain ⟨v0, v1, v2, v3, v4, v5, x0, x1, x2, x3, x4, x5, hl2⟩ := D3.out)
    | (go_at_call 23; refine (C5.out _).mono ?_; rintro e w' ⟨rfl, hb⟩; have A3 := Lib.hid (boxed_at A3.out hb rfl); have D3 := Lib.hid (boxed_at D3.out hb rfl); have B3 := Lib.hid (below_at B3.out hb B3.out.size rfl rfl rfl rfl); clear hb; obtain ⟨z0, z1, z2, z3, z4, z5, y0, y1, y2, y3, y4, y5, hl⟩ := A3.out; obtain ⟨v0, v1, v2, v3, v4, v5, x0, x1, x2, x3, x4, x5, hl2⟩ := D3.out))
  all_goals (
    go_wp2_with fail
    refine (C5.out _).mono ?_
    rintro e w6 ⟨rfl, hb⟩
    have B6 := Lib.hid (below_chain B3.out hb B3.out.size)
    clear hb
    go_wp2_with fail
    go_returns
    exact ⟨rfl, B6.out⟩)

set_option maxHeartbeats 2000000 in
theorem encodes_fit (i : I) (h : i.fit) (hf : fitsI i = true) (w : World) : Calls Try.prog 6 #[.agg i.cells] w fun e w' => e = .returned (.bool true) ∧ Below w.heap.size w w' := by
  have c1 := enc_call i h
  have c2 := ref_call i
  have c4 := fits_call i
  have c5 := rfitsI_call i h
  have c6 := rword_call i hf
  rw [enc_fit i hf] at c1
  generalize wordI i = x at *
  rw [hf] at c4 c5
  obtain ⟨op, rd, rn, rm, imm, cond⟩ := i
  simp only [I.cells] at *
  have C1 := Lib.hid c1
  have C2 := Lib.hid c2
  have C3 := Lib.hid awake_any
  have C4 := Lib.hid c4
  have C5 := Lib.hid c5
  have C6 := Lib.hid c6
  clear c1 c2 c4 c5 c6 hf h
  go_enter Try.func6, Try.ntmps6
  go_wp2_with fail
  refine (C1.out _).mono ?_
  rintro e w1 ⟨rfl, hb⟩
  have A1 := Lib.hid (boxed_new hb)
  have B1 := Lib.hid (below_over (Below.refl _ w) (Nat.le_refl _) hb)
  clear hb
  obtain ⟨z0, z1, z2, z3, z4, z5, y0, y1, y2, y3, y4, y5, hl⟩ := A1.out
  go_wp2_with fail
  refine (C2.out _).mono ?_
  rintro e w2 ⟨rfl, hb⟩
  clear z0 z1 z2 z3 z4 z5 y0 y1 y2 y3 y4 y5 hl
  have A2 := Lib.hid (boxed_same A1.out hb)
  have B2 := Lib.hid (below_chain B1.out hb B1.out.size)
  clear hb A1 B1
  go_wp2_with fail
  have A3 : Hid (Boxed w.heap.size (.int .i64 op) (.int .i64 rd) (.int .i64 rn) (.int .i64 rm) (.int .i64 imm) (.int .i64 cond) (w2.alloc (.cells #[.int .i64 op, .int .i64 rd, .int .i64 rn, .int .i64 rm, .int .i64 imm, .int .i64 cond] 34))) := boxed_over A2.out (Below.refl _ _)
  have D3 : Hid (Boxed w2.heap.size (.int .i64 op) (.int .i64 rd) (.int .i64 rn) (.int .i64 rm) (.int .i64 imm) (.int .i64 cond) (w2.alloc (.cells #[.int .i64 op, .int .i64 rd, .int .i64 rn, .int .i64 rm, .int .i64 imm, .int .i64 cond] 34))) := boxed_new (Below.refl _ _)
  have B3 : Hid (Below w.heap.size w (w2.alloc (.cells #[.int .i64 op, .int .i64 rd, .int .i64 rn, .int .i64 rm, .int .i64 imm, .int .i64 cond] 34))) := below_over B2.out B2.out.size (Below.refl _ _)
  clear A2 B2
  generalize w2.alloc (.cells #[.int .i64 op, .int .i64 rd, .int .i64 rn, .int .i64 rm, .int .i64 imm, .int .i64 cond] 34) = W at *
  generalize w2.heap.size = b2 at *
  obtain ⟨z0, z1, z2, z3, z4, z5, y0, y1, y2, y3, y4, y5, hl⟩ := A3.out
  obtain ⟨v0, v1, v2, v3, v4, v5, x0, x1, x2, x3, x4, x5, hl2⟩ := D3.out
  go_region_with (first
    | (go_at_call 14; refine (C3.out _).mono ?_; rintro e w' ⟨rfl, hb⟩; have A3 := Lib.hid (boxed_at A3.out hb rfl); have D3 := Lib.hid (boxed_at D3.out hb rfl); have B3 := Lib.hid (below_at B3.out hb B3.out.size rfl rfl rfl rfl); clear hb; obtain ⟨z0, z1, z2, z3, z4, z5, y0, y1, y2, y3, y4, y5, hl⟩ := A3.out; obtain ⟨v0, v1, v2, v3, v4, v5, x0, x1, x2, x3, x4, x5, hl2⟩ := D3.out)
    | (go_at_call 22; refine (C4.out _).mono ?_; rintro e w' ⟨rfl, hb⟩; have A3 := Lib.hid (boxed_at A3.out hb rfl); have D3 := Lib.hid (boxed_at D3.out hb rfl); have B3 := Lib.hid (below_at B3.out hb B3.out.size rfl rfl rfl rfl); clear hb; obtain ⟨z0, z1, z2, z3, z4, z5, y0, y1, y2, y3, y4, y5, hl⟩ := A3.out; obtain ⟨v0, v1, v2, v3, v4, v5, x0, x1, x2, x3, x4, x5, hl2⟩ := D3.out)
    | (go_at_call 23; refine (C5.out _).mono ?_; rintro e w' ⟨rfl, hb⟩; have A3 := Lib.hid (boxed_at A3.out hb rfl); have D3 := Lib.hid (boxed_at D3.out hb rfl); have B3 := Lib.hid (below_at B3.out hb B3.out.size rfl rfl rfl rfl); clear hb; obtain ⟨z0, z1, z2, z3, z4, z5, y0, y1, y2, y3, y4, y5, hl⟩ := A3.out; obtain ⟨v0, v1, v2, v3, v4, v5, x0, x1, x2, x3, x4, x5, hl2⟩ := D3.out))
  all_goals (
    go_wp2_with fail
    refine (C5.out _).mono ?_
    rintro e w6 ⟨rfl, hb⟩
    have D6 := Lib.hid (boxed_same D3.out hb)
    have B6 := Lib.hid (below_chain B3.out hb B3.out.size)
    clear hb
    obtain ⟨v0, v1, v2, v3, v4, v5, x0, x1, x2, x3, x4, x5, hl2⟩ := D6.out
    go_wp2_with fail
    refine (C6.out _).mono ?_
    rintro e w7 ⟨rfl, hb⟩
    have B7 := Lib.hid (below_chain B6.out hb B6.out.size)
    clear hb v0 v1 v2 v3 v4 v5 x0 x1 x2 x3 x4 x5 hl2
    go_wp2_with fail
    go_returns
    exact ⟨rfl, B7.out⟩)

theorem encodes_any (i : I) (h : i.fit) (w : World) : Calls Try.prog 6 #[.agg i.cells] w fun e w' => e = .returned (.bool true) ∧ Below w.heap.size w w' := by
  cases hf : fitsI i
  · exact encodes_not i h hf w
  · exact encodes_fit i h hf w

end Go.Proofs.Ytjcebkkmpgafkaa
