/-
  CodeKnown: chapter 14's examples. (Printed by gen_known.py.)
-/
import Derived.Test.YtjcebkkmpgafkaaLawA
namespace Go.Proofs.Ytjcebkkmpgafkaa
open Go Go.RowKit Ev

theorem known_2 (w : World) : Calls Try.prog 15 #[.agg #[.int .i64 2, .int .i64 0, .int .i64 0, .int .i64 0, .int .i64 65535, .int .i64 3], .int .u32 4076863456] w fun e w' => e = .returned (.bool true) ∧ Below w.heap.size w w' :=
  is_word ⟨2, 0, 0, 0, 65535, 3⟩ 4076863456 ⟨by decide, by decide, by decide, by decide, by decide⟩ (by decide) (by decide) (by kernel_rfl) (by kernel_rfl) (by kernel_rfl) w
theorem known_3 (w : World) : Calls Try.prog 15 #[.agg #[.int .i64 3, .int .i64 1, .int .i64 2, .int .i64 3, .int .i64 0, .int .i64 0], .int .u32 2332229697] w fun e w' => e = .returned (.bool true) ∧ Below w.heap.size w w' :=
  is_word ⟨3, 1, 2, 3, 0, 0⟩ 2332229697 ⟨by decide, by decide, by decide, by decide, by decide⟩ (by decide) (by decide) (by kernel_rfl) (by kernel_rfl) (by kernel_rfl) w
theorem known_4 (w : World) : Calls Try.prog 15 #[.agg #[.int .i64 6, .int .i64 4, .int .i64 31, .int .i64 5, .int .i64 0, .int .i64 0], .int .u32 2852455396] w fun e w' => e = .returned (.bool true) ∧ Below w.heap.size w w' :=
  is_word ⟨6, 4, 31, 5, 0, 0⟩ 2852455396 ⟨by decide, by decide, by decide, by decide, by decide⟩ (by decide) (by decide) (by kernel_rfl) (by kernel_rfl) (by kernel_rfl) w
theorem known_5 (w : World) : Calls Try.prog 15 #[.agg #[.int .i64 12, .int .i64 1, .int .i64 31, .int .i64 0, .int .i64 0, .int .i64 0], .int .u32 0] w fun e w' => e = .returned (.bool true) ∧ Below w.heap.size w w' :=
  is_none ⟨12, 1, 31, 0, 0, 0⟩ ⟨by decide, by decide, by decide, by decide, by decide⟩ (by kernel_rfl) w
theorem known_6 (w : World) : Calls Try.prog 15 #[.agg #[.int .i64 14, .int .i64 0, .int .i64 1, .int .i64 0, .int .i64 3, .int .i64 0], .int .u32 3548246048] w fun e w' => e = .returned (.bool true) ∧ Below w.heap.size w w' :=
  is_word ⟨14, 0, 1, 0, 3, 0⟩ 3548246048 ⟨by decide, by decide, by decide, by decide, by decide⟩ (by decide) (by decide) (by kernel_rfl) (by kernel_rfl) (by kernel_rfl) w
theorem known_7 (w : World) : Calls Try.prog 15 #[.agg #[.int .i64 15, .int .i64 0, .int .i64 1, .int .i64 0, .int .i64 3, .int .i64 0], .int .u32 3544448032] w fun e w' => e = .returned (.bool true) ∧ Below w.heap.size w w' :=
  is_word ⟨15, 0, 1, 0, 3, 0⟩ 3544448032 ⟨by decide, by decide, by decide, by decide, by decide⟩ (by decide) (by decide) (by kernel_rfl) (by kernel_rfl) (by kernel_rfl) w
theorem known_8 (w : World) : Calls Try.prog 15 #[.agg #[.int .i64 15, .int .i64 0, .int .i64 1, .int .i64 0, .int .i64 0, .int .i64 0], .int .u32 3544251424] w fun e w' => e = .returned (.bool true) ∧ Below w.heap.size w w' :=
  is_word ⟨15, 0, 1, 0, 0, 0⟩ 3544251424 ⟨by decide, by decide, by decide, by decide, by decide⟩ (by decide) (by decide) (by kernel_rfl) (by kernel_rfl) (by kernel_rfl) w
theorem known_9 (w : World) : Calls Try.prog 15 #[.agg #[.int .i64 14, .int .i64 0, .int .i64 0, .int .i64 0, .int .i64 0, .int .i64 0], .int .u32 0] w fun e w' => e = .returned (.bool true) ∧ Below w.heap.size w w' :=
  is_none ⟨14, 0, 0, 0, 0, 0⟩ ⟨by decide, by decide, by decide, by decide, by decide⟩ (by kernel_rfl) w
theorem known_10 (w : World) : Calls Try.prog 15 #[.agg #[.int .i64 17, .int .i64 2, .int .i64 0, .int .i64 0, .int .i64 0, .int .i64 0], .int .u32 2594117602] w fun e w' => e = .returned (.bool true) ∧ Below w.heap.size w w' :=
  is_word ⟨17, 2, 0, 0, 0, 0⟩ 2594117602 ⟨by decide, by decide, by decide, by decide, by decide⟩ (by decide) (by decide) (by kernel_rfl) (by kernel_rfl) (by kernel_rfl) w
theorem known_11 (w : World) : Calls Try.prog 15 #[.agg #[.int .i64 16, .int .i64 0, .int .i64 1, .int .i64 2, .int .i64 0, .int .i64 0], .int .u32 3942776895] w fun e w' => e = .returned (.bool true) ∧ Below w.heap.size w w' :=
  is_word ⟨16, 0, 1, 2, 0, 0⟩ 3942776895 ⟨by decide, by decide, by decide, by decide, by decide⟩ (by decide) (by decide) (by kernel_rfl) (by kernel_rfl) (by kernel_rfl) w
theorem known_12 (w : World) : Calls Try.prog 15 #[.agg #[.int .i64 16, .int .i64 1, .int .i64 0, .int .i64 0, .int .i64 0, .int .i64 0], .int .u32 0] w fun e w' => e = .returned (.bool true) ∧ Below w.heap.size w w' :=
  is_none ⟨16, 1, 0, 0, 0, 0⟩ ⟨by decide, by decide, by decide, by decide, by decide⟩ (by kernel_rfl) w
theorem known_13 (w : World) : Calls Try.prog 15 #[.agg #[.int .i64 18, .int .i64 0, .int .i64 0, .int .i64 0, .int .i64 (-1), .int .i64 0], .int .u32 402653183] w fun e w' => e = .returned (.bool true) ∧ Below w.heap.size w w' :=
  is_word ⟨18, 0, 0, 0, -1, 0⟩ 402653183 ⟨by decide, by decide, by decide, by decide, by decide⟩ (by decide) (by decide) (by kernel_rfl) (by kernel_rfl) (by kernel_rfl) w
theorem known_14 (w : World) : Calls Try.prog 15 #[.agg #[.int .i64 19, .int .i64 0, .int .i64 0, .int .i64 0, .int .i64 2, .int .i64 1], .int .u32 1409286209] w fun e w' => e = .returned (.bool true) ∧ Below w.heap.size w w' :=
  is_word ⟨19, 0, 0, 0, 2, 1⟩ 1409286209 ⟨by decide, by decide, by decide, by decide, by decide⟩ (by decide) (by decide) (by kernel_rfl) (by kernel_rfl) (by kernel_rfl) w
theorem known_15 (w : World) : Calls Try.prog 15 #[.agg #[.int .i64 21, .int .i64 30, .int .i64 0, .int .i64 0, .int .i64 (-3), .int .i64 0], .int .u32 3053453246] w fun e w' => e = .returned (.bool true) ∧ Below w.heap.size w w' :=
  is_word ⟨21, 30, 0, 0, -3, 0⟩ 3053453246 ⟨by decide, by decide, by decide, by decide, by decide⟩ (by decide) (by decide) (by kernel_rfl) (by kernel_rfl) (by kernel_rfl) w
theorem known_16 (w : World) : Calls Try.prog 15 #[.agg #[.int .i64 22, .int .i64 1, .int .i64 2, .int .i64 0, .int .i64 8, .int .i64 0], .int .u32 4181722177] w fun e w' => e = .returned (.bool true) ∧ Below w.heap.size w w' :=
  is_word ⟨22, 1, 2, 0, 8, 0⟩ 4181722177 ⟨by decide, by decide, by decide, by decide, by decide⟩ (by decide) (by decide) (by kernel_rfl) (by kernel_rfl) (by kernel_rfl) w
theorem known_17 (w : World) : Calls Try.prog 15 #[.agg #[.int .i64 22, .int .i64 1, .int .i64 2, .int .i64 0, .int .i64 4, .int .i64 0], .int .u32 0] w fun e w' => e = .returned (.bool true) ∧ Below w.heap.size w w' :=
  is_none ⟨22, 1, 2, 0, 4, 0⟩ ⟨by decide, by decide, by decide, by decide, by decide⟩ (by kernel_rfl) w
theorem known_18 (w : World) : Calls Try.prog 15 #[.agg #[.int .i64 25, .int .i64 31, .int .i64 0, .int .i64 0, .int .i64 0, .int .i64 0], .int .u32 3365927967] w fun e w' => e = .returned (.bool true) ∧ Below w.heap.size w w' :=
  is_word ⟨25, 31, 0, 0, 0, 0⟩ 3365927967 ⟨by decide, by decide, by decide, by decide, by decide⟩ (by decide) (by decide) (by kernel_rfl) (by kernel_rfl) (by kernel_rfl) w
theorem known_19 (w : World) : Calls Try.prog 15 #[.agg #[.int .i64 28, .int .i64 1, .int .i64 2, .int .i64 3, .int .i64 0, .int .i64 0], .int .u32 3355671617] w fun e w' => e = .returned (.bool true) ∧ Below w.heap.size w w' :=
  is_word ⟨28, 1, 2, 3, 0, 0⟩ 3355671617 ⟨by decide, by decide, by decide, by decide, by decide⟩ (by decide) (by decide) (by kernel_rfl) (by kernel_rfl) (by kernel_rfl) w
theorem known_20 (w : World) : Calls Try.prog 15 #[.agg #[.int .i64 29, .int .i64 3, .int .i64 2, .int .i64 3, .int .i64 0, .int .i64 0], .int .u32 0] w fun e w' => e = .returned (.bool true) ∧ Below w.heap.size w w' :=
  is_none ⟨29, 3, 2, 3, 0, 0⟩ ⟨by decide, by decide, by decide, by decide, by decide⟩ (by kernel_rfl) w
theorem known_21 (w : World) : Calls Try.prog 15 #[.agg #[.int .i64 35, .int .i64 1, .int .i64 2, .int .i64 0, .int .i64 0, .int .i64 0], .int .u32 4173316161] w fun e w' => e = .returned (.bool true) ∧ Below w.heap.size w w' :=
  is_word ⟨35, 1, 2, 0, 0, 0⟩ 4173316161 ⟨by decide, by decide, by decide, by decide, by decide⟩ (by decide) (by decide) (by kernel_rfl) (by kernel_rfl) (by kernel_rfl) w
theorem known_22 (w : World) : Calls Try.prog 15 #[.agg #[.int .i64 39, .int .i64 1, .int .i64 2, .int .i64 3, .int .i64 0, .int .i64 0], .int .u32 3370384449] w fun e w' => e = .returned (.bool true) ∧ Below w.heap.size w w' :=
  is_word ⟨39, 1, 2, 3, 0, 0⟩ 3370384449 ⟨by decide, by decide, by decide, by decide, by decide⟩ (by decide) (by decide) (by kernel_rfl) (by kernel_rfl) (by kernel_rfl) w
theorem known_23 (w : World) : Calls Try.prog 15 #[.agg #[.int .i64 40, .int .i64 1, .int .i64 2, .int .i64 3, .int .i64 0, .int .i64 0], .int .u32 4163076161] w fun e w' => e = .returned (.bool true) ∧ Below w.heap.size w w' :=
  is_word ⟨40, 1, 2, 3, 0, 0⟩ 4163076161 ⟨by decide, by decide, by decide, by decide, by decide⟩ (by decide) (by decide) (by kernel_rfl) (by kernel_rfl) (by kernel_rfl) w
theorem known_24 (w : World) : Calls Try.prog 15 #[.agg #[.int .i64 47, .int .i64 1, .int .i64 2, .int .i64 31, .int .i64 0, .int .i64 0], .int .u32 4177461313] w fun e w' => e = .returned (.bool true) ∧ Below w.heap.size w w' :=
  is_word ⟨47, 1, 2, 31, 0, 0⟩ 4177461313 ⟨by decide, by decide, by decide, by decide, by decide⟩ (by decide) (by decide) (by kernel_rfl) (by kernel_rfl) (by kernel_rfl) w
theorem known_25 (w : World) : Calls Try.prog 15 #[.agg #[.int .i64 40, .int .i64 31, .int .i64 0, .int .i64 0, .int .i64 0, .int .i64 0], .int .u32 0] w fun e w' => e = .returned (.bool true) ∧ Below w.heap.size w w' :=
  is_none ⟨40, 31, 0, 0, 0, 0⟩ ⟨by decide, by decide, by decide, by decide, by decide⟩ (by kernel_rfl) w
theorem known_26 (w : World) : Calls Try.prog 15 #[.agg #[.int .i64 36, .int .i64 0, .int .i64 0, .int .i64 31, .int .i64 0, .int .i64 0], .int .u32 0] w fun e w' => e = .returned (.bool true) ∧ Below w.heap.size w w' :=
  is_none ⟨36, 0, 0, 31, 0, 0⟩ ⟨by decide, by decide, by decide, by decide, by decide⟩ (by kernel_rfl) w
theorem known_27 (w : World) : Calls Try.prog 16 #[.int .u32 0] w fun e w' => e = .returned (.tuple #[.agg #[.int .i64 0, .int .i64 0, .int .i64 0, .int .i64 0, .int .i64 0, .int .i64 0], .int .i64 7]) ∧ Below w.heap.size w w' := by
  have e : cdecV 0 = .tuple #[.agg #[.int .i64 0, .int .i64 0, .int .i64 0, .int .i64 0, .int .i64 0, .int .i64 0], .int .i64 7] := by kernel_rfl
  rw [← e]
  exact cdec_any 0 (by decide) w
theorem known_28 (w : World) : Calls Try.prog 16 #[.int .u32 3573759679] w fun e w' => e = .returned (.tuple #[.agg #[.int .i64 0, .int .i64 0, .int .i64 0, .int .i64 0, .int .i64 0, .int .i64 0], .int .i64 7]) ∧ Below w.heap.size w w' := by
  have e : cdecV 3573759679 = .tuple #[.agg #[.int .i64 0, .int .i64 0, .int .i64 0, .int .i64 0, .int .i64 0, .int .i64 0], .int .i64 7] := by kernel_rfl
  rw [← e]
  exact cdec_any 3573759679 (by decide) w
theorem known_29 (w : World) : Calls Try.prog 15 #[.agg #[.int .i64 33, .int .i64 0, .int .i64 0, .int .i64 0, .int .i64 30, .int .i64 0], .int .u32 3556770753] w fun e w' => e = .returned (.bool true) ∧ Below w.heap.size w w' :=
  is_word ⟨33, 0, 0, 0, 30, 0⟩ 3556770753 ⟨by decide, by decide, by decide, by decide, by decide⟩ (by decide) (by decide) (by kernel_rfl) (by kernel_rfl) (by kernel_rfl) w
theorem known_30 (w : World) : Calls Try.prog 15 #[.agg #[.int .i64 33, .int .i64 0, .int .i64 0, .int .i64 0, .int .i64 1, .int .i64 0], .int .u32 3556769825] w fun e w' => e = .returned (.bool true) ∧ Below w.heap.size w w' :=
  is_word ⟨33, 0, 0, 0, 1, 0⟩ 3556769825 ⟨by decide, by decide, by decide, by decide, by decide⟩ (by decide) (by decide) (by kernel_rfl) (by kernel_rfl) (by kernel_rfl) w

set_option maxHeartbeats 4000000 in
theorem known_any (w : World) : Calls Try.prog 3 #[] w fun e w' => e = .returned (.bool true) ∧ Below w.heap.size w w' := by
  have C1 := Lib.hid awake_any
  have C2 := Lib.hid known_2
  have C3 := Lib.hid known_3
  have C4 := Lib.hid known_4
  have C5 := Lib.hid known_5
  have C6 := Lib.hid known_6
  have C7 := Lib.hid known_7
  have C8 := Lib.hid known_8
  have C9 := Lib.hid known_9
  have C10 := Lib.hid known_10
  have C11 := Lib.hid known_11
  have C12 := Lib.hid known_12
  have C13 := Lib.hid known_13
  have C14 := Lib.hid known_14
  have C15 := Lib.hid known_15
  have C16 := Lib.hid known_16
  have C17 := Lib.hid known_17
  have C18 := Lib.hid known_18
  have C19 := Lib.hid known_19
  have C20 := Lib.hid known_20
  have C21 := Lib.hid known_21
  have C22 := Lib.hid known_22
  have C23 := Lib.hid known_23
  have C24 := Lib.hid known_24
  have C25 := Lib.hid known_25
  have C26 := Lib.hid known_26
  have C27 := Lib.hid known_27
  have C28 := Lib.hid known_28
  have C29 := Lib.hid known_29
  have C30 := Lib.hid known_30
  have B0 := Lib.hid (Below.refl w.heap.size w)
  have S0 : Hid (w.heap.size ≤ w.heap.size) := Nat.le_refl _
  go_enter Try.func3, Try.ntmps3
  go_wp2_with fail
  refine (C1.out _).mono ?_
  rintro e w1 ⟨rfl, hb⟩
  have B1 := Lib.hid (below_chain B0.out hb B0.out.size)
  clear hb
  go_wp2_with fail
  refine (C2.out _).mono ?_
  rintro e w2 ⟨rfl, hb⟩
  have B2 := Lib.hid (below_chain B1.out hb B1.out.size)
  clear hb
  go_wp2_with fail
  refine (C3.out _).mono ?_
  rintro e w3 ⟨rfl, hb⟩
  have B3 := Lib.hid (below_chain B2.out hb B2.out.size)
  clear hb
  go_wp2_with fail
  refine (C4.out _).mono ?_
  rintro e w4 ⟨rfl, hb⟩
  have B4 := Lib.hid (below_chain B3.out hb B3.out.size)
  clear hb
  go_wp2_with fail
  refine (C5.out _).mono ?_
  rintro e w5 ⟨rfl, hb⟩
  have B5 := Lib.hid (below_chain B4.out hb B4.out.size)
  clear hb
  go_wp2_with fail
  refine (C6.out _).mono ?_
  rintro e w6 ⟨rfl, hb⟩
  have B6 := Lib.hid (below_chain B5.out hb B5.out.size)
  clear hb
  go_wp2_with fail
  refine (C7.out _).mono ?_
  rintro e w7 ⟨rfl, hb⟩
  have B7 := Lib.hid (below_chain B6.out hb B6.out.size)
  clear hb
  go_wp2_with fail
  refine (C8.out _).mono ?_
  rintro e w8 ⟨rfl, hb⟩
  have B8 := Lib.hid (below_chain B7.out hb B7.out.size)
  clear hb
  go_wp2_with fail
  refine (C9.out _).mono ?_
  rintro e w9 ⟨rfl, hb⟩
  have B9 := Lib.hid (below_chain B8.out hb B8.out.size)
  clear hb
  go_wp2_with fail
  refine (C10.out _).mono ?_
  rintro e w10 ⟨rfl, hb⟩
  have B10 := Lib.hid (below_chain B9.out hb B9.out.size)
  clear hb
  go_wp2_with fail
  refine (C11.out _).mono ?_
  rintro e w11 ⟨rfl, hb⟩
  have B11 := Lib.hid (below_chain B10.out hb B10.out.size)
  clear hb
  go_wp2_with fail
  refine (C12.out _).mono ?_
  rintro e w12 ⟨rfl, hb⟩
  have B12 := Lib.hid (below_chain B11.out hb B11.out.size)
  clear hb
  go_wp2_with fail
  refine (C13.out _).mono ?_
  rintro e w13 ⟨rfl, hb⟩
  have B13 := Lib.hid (below_chain B12.out hb B12.out.size)
  clear hb
  go_wp2_with fail
  refine (C14.out _).mono ?_
  rintro e w14 ⟨rfl, hb⟩
  have B14 := Lib.hid (below_chain B13.out hb B13.out.size)
  clear hb
  go_wp2_with fail
  refine (C15.out _).mono ?_
  rintro e w15 ⟨rfl, hb⟩
  have B15 := Lib.hid (below_chain B14.out hb B14.out.size)
  clear hb
  go_wp2_with fail
  refine (C16.out _).mono ?_
  rintro e w16 ⟨rfl, hb⟩
  have B16 := Lib.hid (below_chain B15.out hb B15.out.size)
  clear hb
  go_wp2_with fail
  refine (C17.out _).mono ?_
  rintro e w17 ⟨rfl, hb⟩
  have B17 := Lib.hid (below_chain B16.out hb B16.out.size)
  clear hb
  go_wp2_with fail
  refine (C18.out _).mono ?_
  rintro e w18 ⟨rfl, hb⟩
  have B18 := Lib.hid (below_chain B17.out hb B17.out.size)
  clear hb
  go_wp2_with fail
  refine (C19.out _).mono ?_
  rintro e w19 ⟨rfl, hb⟩
  have B19 := Lib.hid (below_chain B18.out hb B18.out.size)
  clear hb
  go_wp2_with fail
  refine (C20.out _).mono ?_
  rintro e w20 ⟨rfl, hb⟩
  have B20 := Lib.hid (below_chain B19.out hb B19.out.size)
  clear hb
  go_wp2_with fail
  refine (C21.out _).mono ?_
  rintro e w21 ⟨rfl, hb⟩
  have B21 := Lib.hid (below_chain B20.out hb B20.out.size)
  clear hb
  go_wp2_with fail
  refine (C22.out _).mono ?_
  rintro e w22 ⟨rfl, hb⟩
  have B22 := Lib.hid (below_chain B21.out hb B21.out.size)
  clear hb
  go_wp2_with fail
  refine (C23.out _).mono ?_
  rintro e w23 ⟨rfl, hb⟩
  have B23 := Lib.hid (below_chain B22.out hb B22.out.size)
  clear hb
  go_wp2_with fail
  refine (C24.out _).mono ?_
  rintro e w24 ⟨rfl, hb⟩
  have B24 := Lib.hid (below_chain B23.out hb B23.out.size)
  clear hb
  go_wp2_with fail
  refine (C25.out _).mono ?_
  rintro e w25 ⟨rfl, hb⟩
  have B25 := Lib.hid (below_chain B24.out hb B24.out.size)
  clear hb
  go_wp2_with fail
  refine (C26.out _).mono ?_
  rintro e w26 ⟨rfl, hb⟩
  have B26 := Lib.hid (below_chain B25.out hb B25.out.size)
  clear hb
  go_wp2_with fail
  refine (C27.out _).mono ?_
  rintro e w27 ⟨rfl, hb⟩
  have B27 := Lib.hid (below_chain B26.out hb B26.out.size)
  clear hb
  go_wp2_with fail
  refine (C28.out _).mono ?_
  rintro e w28 ⟨rfl, hb⟩
  have B28 := Lib.hid (below_chain (B27.out.alloc B27.out.size _) hb (by simp; have := B27.out.size; omega))
  clear hb
  go_wp2_with fail
  refine (C29.out _).mono ?_
  rintro e w29 ⟨rfl, hb⟩
  have B29 := Lib.hid (below_chain (B28.out.alloc B28.out.size _) hb (by simp; have := B28.out.size; omega))
  clear hb
  go_wp2_with fail
  refine (C30.out _).mono ?_
  rintro e w30 ⟨rfl, hb⟩
  have B30 := Lib.hid (below_chain B29.out hb B29.out.size)
  clear hb
  go_wp2_with fail
  go_returns
  exact ⟨rfl, B30.out⟩

end Go.Proofs.Ytjcebkkmpgafkaa
