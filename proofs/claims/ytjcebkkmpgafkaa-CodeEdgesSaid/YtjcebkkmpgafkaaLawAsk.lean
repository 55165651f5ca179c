/-
  asked: do Fits, Encode and Decode answer of an instruction what the reference does? (Printed by gen_ask.py.)
-/
import Derived.Test.YtjcebkkmpgafkaaLawB
namespace Go.Proofs.Ytjcebkkmpgafkaa
open Go Go.RowKit Ev

set_option maxHeartbeats 2000000 in
theorem asked_not (i : I) (h : i.fit) (hf : fitsI i = false) (w : World) : Calls Try.prog 18 #[.agg i.cells] w fun e w' => e = .returned (.bool true) ∧ Below w.heap.size w w' := by
  have c1 := api_call i
  have c2 := enc_call i h
  have c3 := rfitsI_call i h
  have c4 := fits_call i
  rw [enc_not i hf] at c2
  rw [hf] at c3 c4
  obtain ⟨op, rd, rn, rm, imm, cond⟩ := i
  simp only [I.cells] at *
  have C1 := Lib.hid c1
  have C2 := Lib.hid c2
  have C3 := Lib.hid c3
  have C4 := Lib.hid c4
  clear c1 c2 c3 c4 hf h
  go_enter Try.func18, Try.ntmps18
  go_wp2_with fail
  refine (C1.out _).mono ?_
  rintro e w1 ⟨rfl, hb⟩
  have R1 := Lib.hid (boxed_new hb)
  have B1 := Lib.hid (below_over (Below.refl _ w) (Nat.le_refl _) hb)
  clear hb
  go_wp2_with fail
  refine (C2.out _).mono ?_
  rintro e w2 ⟨rfl, hb⟩
  have R2 := Lib.hid (boxed_over R1.out hb)
  have A2 := Lib.hid (boxed_new hb)
  have B2 := Lib.hid (below_over B1.out B1.out.size hb)
  clear hb
  obtain ⟨z0, z1, z2, z3, z4, z5, y0, y1, y2, y3, y4, y5, hl⟩ := R2.out
  go_wp2_with fail
  refine (C3.out _).mono ?_
  rintro e w3 ⟨rfl, hb⟩
  have R3 := Lib.hid (boxed_same R2.out hb)
  have A3 := Lib.hid (boxed_same A2.out hb)
  have B3 := Lib.hid (below_chain B2.out hb B2.out.size)
  clear hb
  clear z0 z1 z2 z3 z4 z5 y0 y1 y2 y3 y4 y5 hl
  obtain ⟨v0, v1, v2, v3, v4, v5, x0, x1, x2, x3, x4, x5, hl2⟩ := A3.out
  go_wp2_with fail
  refine (C4.out _).mono ?_
  rintro e w4 ⟨rfl, hb⟩
  have A4 := Lib.hid (boxed_same A3.out hb)
  have B4 := Lib.hid (below_chain B3.out hb B3.out.size)
  clear hb
  clear v0 v1 v2 v3 v4 v5 x0 x1 x2 x3 x4 x5 hl2
  go_wp2_with fail
  go_returns
  exact ⟨rfl, B4.out⟩

set_option maxHeartbeats 2000000 in
theorem asked_fit (i : I) (h : i.fit) (hf : fitsI i = true) (w : World) : Calls Try.prog 18 #[.agg i.cells] w fun e w' => e = .returned (.bool true) ∧ Below w.heap.size w w' := by
  have c1 := api_call i
  have c2 := enc_call i h
  have c3 := rfitsI_call i h
  have c4 := fits_call i
  rw [enc_fit i hf] at c2
  rw [hf] at c3 c4
  have c5 := cdec_any (wordI i) (wordI_lt i)
  rw [cdec_word i hf] at c5
  have c6 := rword_call i hf
  generalize wordI i = x at *
  obtain ⟨op, rd, rn, rm, imm, cond⟩ := i
  simp only [I.cells] at *
  have C1 := Lib.hid c1
  have C2 := Lib.hid c2
  have C3 := Lib.hid c3
  have C4 := Lib.hid c4
  have C5 := Lib.hid c5
  have C6 := Lib.hid c6
  clear c1 c2 c3 c4 c5 c6 hf h
  go_enter Try.func18, Try.ntmps18
  go_wp2_with fail
  refine (C1.out _).mono ?_
  rintro e w1 ⟨rfl, hb⟩
  have R1 := Lib.hid (boxed_new hb)
  have B1 := Lib.hid (below_over (Below.refl _ w) (Nat.le_refl _) hb)
  clear hb
  go_wp2_with fail
  refine (C2.out _).mono ?_
  rintro e w2 ⟨rfl, hb⟩
  have R2 := Lib.hid (boxed_over R1.out hb)
  have A2 := Lib.hid (boxed_new hb)
  have B2 := Lib.hid (below_over B1.out B1.out.size hb)
  clear hb
  obtain ⟨z0, z1, z2, z3, z4, z5, y0, y1, y2, y3, y4, y5, hl⟩ := R2.out
  go_wp2_with fail
  refine (C3.out _).mono ?_
  rintro e w3 ⟨rfl, hb⟩
  have R3 := Lib.hid (boxed_same R2.out hb)
  have A3 := Lib.hid (boxed_same A2.out hb)
  have B3 := Lib.hid (below_chain B2.out hb B2.out.size)
  clear hb
  clear z0 z1 z2 z3 z4 z5 y0 y1 y2 y3 y4 y5 hl
  obtain ⟨v0, v1, v2, v3, v4, v5, x0, x1, x2, x3, x4, x5, hl2⟩ := A3.out
  go_wp2_with fail
  refine (C5.out _).mono ?_
  rintro e w4 ⟨rfl, hb⟩
  have R4 := Lib.hid (boxed_same R3.out hb)
  have A4 := Lib.hid (boxed_same A3.out hb)
  have B4 := Lib.hid (below_chain B3.out hb B3.out.size)
  clear hb
  clear v0 v1 v2 v3 v4 v5 x0 x1 x2 x3 x4 x5 hl2
  obtain ⟨v0, v1, v2, v3, v4, v5, x0, x1, x2, x3, x4, x5, hl2⟩ := A4.out
  go_wp2_with fail
  refine (C4.out _).mono ?_
  rintro e w5 ⟨rfl, hb⟩
  have R5 := Lib.hid (boxed_over R4.out hb)
  have A5 := Lib.hid (boxed_over A4.out hb)
  have D5 := Lib.hid (boxed_new hb)
  have B5 := Lib.hid (below_over B4.out B4.out.size hb)
  clear hb
  clear v0 v1 v2 v3 v4 v5 x0 x1 x2 x3 x4 x5 hl2
  obtain ⟨z0, z1, z2, z3, z4, z5, y0, y1, y2, y3, y4, y5, hl⟩ := R5.out
  go_wp2_with fail
  refine (C6.out _).mono ?_
  rintro e w6 ⟨rfl, hb⟩
  have A6 := Lib.hid (boxed_same A5.out hb)
  have D6 := Lib.hid (boxed_same D5.out hb)
  have B6 := Lib.hid (below_chain B5.out hb B5.out.size)
  clear hb
  clear z0 z1 z2 z3 z4 z5 y0 y1 y2 y3 y4 y5 hl
  obtain ⟨v0, v1, v2, v3, v4, v5, x0, x1, x2, x3, x4, x5, hl2⟩ := A6.out
  obtain ⟨u0, u1, u2, u3, u4, u5, t0, t1, t2, t3, t4, t5, hl3⟩ := D6.out
  go_wp2_with fail
  go_returns
  exact ⟨rfl, B6.out⟩

theorem asked_any (i : I) (h : i.fit) (w : World) : Calls Try.prog 18 #[.agg i.cells] w fun e w' => e = .returned (.bool true) ∧ Below w.heap.size w w' := by
  cases hf : fitsI i
  · exact asked_not i h hf w
  · exact asked_fit i h hf w

/-- An instruction of an operation, with small fields. -/
def plainI (k : Nat) : I := ⟨k, 0, 0, if k = 28 ∨ k = 29 then 1 else 0, if k = 14 then 1 else 0, 0⟩
theorem plain_a : Gives Try.prog 17 #[.int .i64 14] (.agg (plainI 14).cells) 2 := gives_of_out noSpec_holds mixed 100 fun _ => ⟨by kernel_rfl, by kernel_rfl, by kernel_rfl⟩
theorem plain_b : Gives Try.prog 17 #[.int .i64 28] (.agg (plainI 28).cells) 2 := gives_of_out noSpec_holds mixed 100 fun _ => ⟨by kernel_rfl, by kernel_rfl, by kernel_rfl⟩
theorem plain_c : Gives Try.prog 17 #[.int .i64 29] (.agg (plainI 29).cells) 2 := gives_of_out noSpec_holds mixed 100 fun _ => ⟨by kernel_rfl, by kernel_rfl, by kernel_rfl⟩
theorem plain_d (k : Nat) (h1 : k ≠ 14) (h2 : k ≠ 28) (h3 : k ≠ 29) : Gives Try.prog 17 #[.int .i64 (k : Nat)] (.agg (plainI k).cells) 2 := by
  have e : plainI k = ⟨k, 0, 0, 0, 0, 0⟩ := by simp [plainI, h1, h2, h3]
  rw [e]
  exact gives_of_asked (withBoth_holds (fs := []) (cl := []) (fn := 17) (ts := [7, 10, 13]) (rl := [.bool false, .bool false, .bool false]) cl_nil) mixed 100
    (qs := [(.val (.bool ((k : Int) == 29)), .val (.bool false)), (.val (.bool ((k : Int) == 28)), .val (.bool false)), (.val (.bool ((k : Int) == 14)), .val (.bool false))])
    (by
      have e1 : ((k : Int) == 14) = false := beq_eq_false_iff_ne.2 (by omega)
      have e2 : ((k : Int) == 28) = false := beq_eq_false_iff_ne.2 (by omega)
      have e3 : ((k : Int) == 29) = false := beq_eq_false_iff_ne.2 (by omega)
      simp [e1, e2, e3]) fun _ => ⟨by kernel_rfl, by kernel_rfl, by kernel_rfl⟩
theorem plain_call (k : Nat) (W : World) : Calls Try.prog 17 #[.int .i64 (k : Nat)] W fun e W' => e = .returned (.agg (plainI k).cells) ∧ Below W.heap.size W W' := by
  have key : Gives Try.prog 17 #[.int .i64 (k : Nat)] (.agg (plainI k).cells) 2 := by
    by_cases h1 : k = 14
    · subst h1; exact plain_a
    by_cases h2 : k = 28
    · subst h2; exact plain_b
    by_cases h3 : k = 29
    · subst h3; exact plain_c
    exact plain_d k h1 h2 h3
  exact (key W).mono fun _ _ h => ⟨h.1, h.2.1⟩

end Go.Proofs.Ytjcebkkmpgafkaa
