/-
  CodeDecodes: Decode of any word.
-/
import Derived.Test.YtjcebkkmpgafkaaLawB
import Derived.Deep.RegionWith
namespace Go.Proofs.Ytjcebkkmpgafkaa
open Go Go.RowKit Ev

set_option maxHeartbeats 2000000 in
theorem decodes_none (x : Nat) (hx : x < 4294967296) (hd : decR x = none) (w : World) : Calls Try.prog 7 #[.int .u32 x] w fun e w' => e = .returned (.bool true) ∧ Below w.heap.size w w' := by
  have c1 := cdec_any x hx
  have c2 := rdec_any x hx
  rw [cdec_none x hx hd] at c1
  unfold decV at c2
  rw [hd] at c2
  simp only [zeroCells] at c1 c2
  have C1 := Lib.hid c1
  have C2 := Lib.hid c2
  have C3 := Lib.hid awake_any
  clear c1 c2 hd hx
  go_enter Try.func7, Try.ntmps7
  go_wp2_with fail
  refine (C1.out _).mono ?_
  rintro e w1 ⟨rfl, hb⟩
  have B1 := Lib.hid hb
  clear hb
  go_wp2_with fail
  refine (C2.out _).mono ?_
  rintro e w2 ⟨rfl, hb⟩
  have A2 := Lib.hid (boxed_new hb)
  have B2 := Lib.hid (below_over B1.out B1.out.size hb)
  clear hb
  go_wp2_with fail
  refine (C3.out _).mono ?_
  rintro e w3 ⟨rfl, hb⟩
  have A3 := Lib.hid (boxed_over A2.out hb)
  have B3 := Lib.hid (below_over B2.out B2.out.size hb)
  clear hb
  obtain ⟨z0, z1, z2, z3, z4, z5, y0, y1, y2, y3, y4, y5, hl⟩ := A3.out
  go_wp2_with fail
  go_returns
  exact ⟨rfl, B3.out⟩

set_option maxHeartbeats 2000000 in
theorem decodes_some (x k : Nat) (hx : x < 4294967296) (hd : decR x = some k) (w : World) : Calls Try.prog 7 #[.int .u32 x] w fun e w' => e = .returned (.bool true) ∧ Below w.heap.size w w' := by
  have c1 := cdec_any x hx
  have c2 := rdec_any x hx
  have c4 := api_call (asR k x)
  rw [cdec_hit x k hx hd] at c1
  unfold decV at c2
  rw [hd] at c2
  simp only at c2
  generalize asR k x = a at *
  obtain ⟨op, rd, rn, rm, imm, cond⟩ := a
  simp only [I.cells] at *
  have C1 := Lib.hid c1
  have C2 := Lib.hid c2
  have C3 := Lib.hid awake_any
  have C4 := Lib.hid c4
  clear c1 c2 c4 hd hx
  go_enter Try.func7, Try.ntmps7
  go_wp2_with fail
  refine (C1.out _).mono ?_
  rintro e w1 ⟨rfl, hb⟩
  have B1 := Lib.hid hb
  clear hb
  go_wp2_with fail
  refine (C2.out _).mono ?_
  rintro e w2 ⟨rfl, hb⟩
  have A2 := Lib.hid (boxed_new hb)
  have B2 := Lib.hid (below_over B1.out B1.out.size hb)
  clear hb
  go_wp2_with fail
  have A3 : Hid (Boxed w1.heap.size (.int .i64 op) (.int .i64 rd) (.int .i64 rn) (.int .i64 rm) (.int .i64 imm) (.int .i64 cond) (w2.alloc (.cells #[.int .i64 op, .int .i64 rd, .int .i64 rn, .int .i64 rm, .int .i64 imm, .int .i64 cond] 34))) := boxed_over A2.out (Below.refl _ _)
  have D3 : Hid (Boxed w2.heap.size (.int .i64 op) (.int .i64 rd) (.int .i64 rn) (.int .i64 rm) (.int .i64 imm) (.int .i64 cond) (w2.alloc (.cells #[.int .i64 op, .int .i64 rd, .int .i64 rn, .int .i64 rm, .int .i64 imm, .int .i64 cond] 34))) := boxed_new (Below.refl _ _)
  have B3 : Hid (Below w.heap.size w (w2.alloc (.cells #[.int .i64 op, .int .i64 rd, .int .i64 rn, .int .i64 rm, .int .i64 imm, .int .i64 cond] 34))) := below_over B2.out B2.out.size (Below.refl _ _)
  clear A2 B2 B1
  generalize w2.alloc (.cells #[.int .i64 op, .int .i64 rd, .int .i64 rn, .int .i64 rm, .int .i64 imm, .int .i64 cond] 34) = W at *
  generalize w2.heap.size = b2 at *
  generalize w1.heap.size = b1 at *
  obtain ⟨z0, z1, z2, z3, z4, z5, y0, y1, y2, y3, y4, y5, hl⟩ := A3.out
  obtain ⟨v0, v1, v2, v3, v4, v5, x0, x1, x2, x3, x4, x5, hl2⟩ := D3.out
  go_region_with (first
    | (go_at_call 14; refine (C3.out _).mono ?_; rintro e w' ⟨rfl, hb⟩; have A3 := Lib.hid (boxed_at A3.out hb rfl); have D3 := Lib.hid (boxed_at D3.out hb rfl); have B3 := Lib.hid (below_at B3.out hb B3.out.size rfl rfl rfl rfl); clear hb; obtain ⟨z0, z1, z2, z3, z4, z5, y0, y1, y2, y3, y4, y5, hl⟩ := A3.out; obtain ⟨v0, v1, v2, v3, v4, v5, x0, x1, x2, x3, x4, x5, hl2⟩ := D3.out)
    | (go_at_call 26; refine (C4.out _).mono ?_; rintro e w' ⟨rfl, hb⟩; have A3 := Lib.hid (boxed_at A3.out hb rfl); have D3 := Lib.hid (boxed_at D3.out hb rfl); have B3 := Lib.hid (below_at B3.out hb B3.out.size rfl rfl rfl rfl); clear hb; obtain ⟨z0, z1, z2, z3, z4, z5, y0, y1, y2, y3, y4, y5, hl⟩ := A3.out; obtain ⟨v0, v1, v2, v3, v4, v5, x0, x1, x2, x3, x4, x5, hl2⟩ := D3.out))
  all_goals (
    go_wp2_with fail
    go_returns
    exact ⟨rfl, B3.out⟩)

theorem decodes_any (x : Nat) (hx : x < 4294967296) (w : World) : Calls Try.prog 7 #[.int .u32 x] w fun e w' => e = .returned (.bool true) ∧ Below w.heap.size w w' := by
  cases hd : decR x with
  | none => exact decodes_none x hx hd w
  | some k => exact decodes_some x k hx hd w

end Go.Proofs.Ytjcebkkmpgafkaa
