/-
  CodeForth: a word that is decoded is that instruction's word; with a bit turned it is none, or another's.
-/
import Derived.Test.YtjcebkkmpgafkaaLawB
namespace Go.Proofs.Ytjcebkkmpgafkaa
open Go Go.RowKit Ev

set_option maxHeartbeats 2000000 in
theorem forth_none (x : Nat) (b : Int) (hx : x < 4294967296) (hd : decR x = none) (w : World) : Calls Try.prog 9 #[.int .u32 x, .int .i64 b] w fun e w' => e = .returned (.bool true) ∧ Below w.heap.size w w' := by
  have c2 := cdec_any x hx
  rw [cdec_none x hx hd] at c2
  simp only [zeroCells] at c2
  have C1 := Lib.hid awake_any
  have C2 := Lib.hid c2
  clear c2 hd hx
  go_enter Try.func9, Try.ntmps9
  go_wp2_with fail
  refine (C1.out _).mono ?_
  rintro e w1 ⟨rfl, hb⟩
  have B1 := Lib.hid hb
  clear hb
  go_wp2_with fail
  refine (C2.out _).mono ?_
  rintro e w2 ⟨rfl, hb⟩
  have B2 := Lib.hid (below_chain B1.out hb B1.out.size)
  clear hb
  go_wp2_with fail
  have B3 := B2.out.alloc B2.out.size (.cells #[.int .i64 0, .int .i64 0, .int .i64 0, .int .i64 0, .int .i64 0, .int .i64 0] 25)
  go_returns
  exact ⟨rfl, B3⟩

theorem turned (x m : Nat) (hx : x < 4294967296) (hm : m < 32) : x ^^^ 2 ^ m < 4294967296 ∧ x ^^^ 2 ^ m ≠ x := by
  have h1 : 2 ^ m < 2 ^ 32 := Nat.pow_lt_pow_right (by decide) hm
  refine ⟨Nat.xor_lt_two_pow (n := 32) hx h1, fun h => ?_⟩
  have h2 := congrArg (fun y => Nat.testBit y m) h
  simp [Nat.testBit_xor] at h2

theorem xor_bit (x m : Nat) (hx : x < 4294967296) (hm : m < 32) : ((x ^^^ 2 ^ m : Nat) : Int) = bits .xor .u32 (x : Int) (2 ^ m % 4294967296) := by
  have h1 : 2 ^ m < 4294967296 := pow_lt32 m hm
  have h3 : ((2 : Int) ^ m) = ((2 ^ m : Nat) : Int) := by simp
  have h2 : ((2 : Int) ^ m % 4294967296) = ((2 ^ m : Nat) : Int) := by
    rw [h3]; exact Int.emod_eq_of_lt (Int.natCast_nonneg _) (by omega)
  rw [h2, xor32 x _ hx h1]

set_option maxHeartbeats 2000000 in
theorem forth_up (x k m : Nat) (b : Int) (hx : x < 4294967296) (hd : decR x = some k) (hm : m < 32) (hr : b.tmod 32 = m) (a2 : I) (g : Int) (hg : g = 7 ∨ (g = 0 ∧ asR k x ≠ a2)) (hc : ∀ W, Calls Try.prog 16 #[.int .u32 (x ^^^ 2 ^ m : Nat)] W fun e W' => e = .returned (.tuple #[.agg a2.cells, .int .i64 g]) ∧ Below W.heap.size W W') (w : World) : Calls Try.prog 9 #[.int .u32 x, .int .i64 b] w fun e w' => e = .returned (.bool true) ∧ Below w.heap.size w w' := by
  have c2 := cdec_any x hx
  rw [cdec_hit x k hx hd] at c2
  obtain ⟨hfi, hwi⟩ := hit_word x k (decR_some x k hd).2.2
  have c3 := enc_call (asR k x) (asR_fit k x)
  rw [enc_fit _ hfi, hwi] at c3
  have c5 := fits_call (asR k x)
  rw [hfi] at c5
  have t1 : decide ((m : Int) < 0) = false := by simp
  rw [xor_bit x m hx hm] at hc
  generalize asR k x = a at *
  obtain ⟨op, rd, rn, rm, imm, cond⟩ := a
  obtain ⟨opj, rdj, rnj, rmj, immj, condj⟩ := a2
  have hg' : g = 7 ∨ (g = 0 ∧ opj ≠ op) ∨ (g = 0 ∧ opj = op ∧ rdj ≠ rd) ∨ (g = 0 ∧ opj = op ∧ rdj = rd ∧ rnj ≠ rn) ∨ (g = 0 ∧ opj = op ∧ rdj = rd ∧ rnj = rn ∧ rmj ≠ rm) ∨ (g = 0 ∧ opj = op ∧ rdj = rd ∧ rnj = rn ∧ rmj = rm ∧ immj ≠ imm) ∨ (g = 0 ∧ opj = op ∧ rdj = rd ∧ rnj = rn ∧ rmj = rm ∧ immj = imm ∧ condj ≠ cond) := by
    rcases hg with hg | ⟨hg, hne⟩
    · exact .inl hg
    · have hv : ¬ (opj = op ∧ rdj = rd ∧ rnj = rn ∧ rmj = rm ∧ immj = imm ∧ condj = cond) := fun h => hne (by obtain ⟨rfl, rfl, rfl, rfl, rfl, rfl⟩ := h; rfl)
      clear hne
      omega
  have G := Lib.hid hg'
  simp only [I.cells] at *
  have C1 := Lib.hid awake_any
  have C2 := Lib.hid c2
  have C3 := Lib.hid c3
  have C5 := Lib.hid c5
  have C6 := Lib.hid hc
  clear c2 c3 c5 hd hx hfi hwi hg hg' hc
  go_enter Try.func9, Try.ntmps9
  go_wp2_with fail
  refine (C1.out _).mono ?_
  rintro e w1 ⟨rfl, hb⟩
  have B1 := Lib.hid hb
  clear hb
  go_wp2_with fail
  refine (C2.out _).mono ?_
  rintro e w2 ⟨rfl, hb⟩
  have B2 := Lib.hid (below_chain B1.out hb B1.out.size)
  clear hb
  go_wp2_with fail
  refine (C3.out _).mono ?_
  rintro e w3 ⟨rfl, hb⟩
  have A3 := Lib.hid (boxed_new hb)
  have B3 := Lib.hid (below_over B2.out B2.out.size hb)
  clear hb
  go_wp2_with fail
  refine (C6.out _).mono ?_
  rintro e w4 ⟨rfl, hb⟩
  have A4 := Lib.hid (boxed_same A3.out hb)
  have B4 := Lib.hid (below_chain B3.out hb B3.out.size)
  clear hb
  obtain ⟨z0, z1, z2, z3, z4, z5, y0, y1, y2, y3, y4, y5, hl⟩ := A4.out
  go_wp2_with fail
  refine (C5.out _).mono ?_
  rintro e w5 ⟨rfl, hb⟩
  clear z0 z1 z2 z3 z4 z5 y0 y1 y2 y3 y4 y5 hl
  have A5 := Lib.hid (boxed_over A4.out hb)
  have J5 := Lib.hid (boxed_new hb)
  have B5 := Lib.hid (below_over B4.out B4.out.size hb)
  clear hb
  rcases G.out with rfl | ⟨rfl, h⟩ | ⟨rfl, rfl, h⟩ | ⟨rfl, rfl, rfl, h⟩ | ⟨rfl, rfl, rfl, rfl, h⟩ | ⟨rfl, rfl, rfl, rfl, rfl, h⟩ | ⟨rfl, rfl, rfl, rfl, rfl, rfl, h⟩
  · clear G
    go_wp2_with fail
    go_returns
    exact ⟨rfl, B5.out⟩
  all_goals (
    clear G
    have t2 := beq_eq_false_iff_ne.2 h
    clear h
    obtain ⟨z0, z1, z2, z3, z4, z5, y0, y1, y2, y3, y4, y5, hl⟩ := A5.out
    obtain ⟨v0, v1, v2, v3, v4, v5, x0, x1, x2, x3, x4, x5, hl2⟩ := J5.out
    go_wp2_with fail
    go_returns
    exact ⟨rfl, B5.out⟩)

set_option maxHeartbeats 2000000 in
theorem forth_down (x k m : Nat) (b : Int) (hx : x < 4294967296) (hd : decR x = some k) (hm : m < 32) (hr : b.tmod 32 = -(m : Int)) (hm1 : 1 ≤ m) (a2 : I) (g : Int) (hg : g = 7 ∨ (g = 0 ∧ asR k x ≠ a2)) (hc : ∀ W, Calls Try.prog 16 #[.int .u32 (x ^^^ 2 ^ m : Nat)] W fun e W' => e = .returned (.tuple #[.agg a2.cells, .int .i64 g]) ∧ Below W.heap.size W W') (w : World) : Calls Try.prog 9 #[.int .u32 x, .int .i64 b] w fun e w' => e = .returned (.bool true) ∧ Below w.heap.size w w' := by
  have c2 := cdec_any x hx
  rw [cdec_hit x k hx hd] at c2
  obtain ⟨hfi, hwi⟩ := hit_word x k (decR_some x k hd).2.2
  have c3 := enc_call (asR k x) (asR_fit k x)
  rw [enc_fit _ hfi, hwi] at c3
  have c5 := fits_call (asR k x)
  rw [hfi] at c5
  have t1 : decide (-(m : Int) < 0) = true := decide_eq_true (by omega)
  rw [xor_bit x m hx hm] at hc
  generalize asR k x = a at *
  obtain ⟨op, rd, rn, rm, imm, cond⟩ := a
  obtain ⟨opj, rdj, rnj, rmj, immj, condj⟩ := a2
  have hg' : g = 7 ∨ (g = 0 ∧ opj ≠ op) ∨ (g = 0 ∧ opj = op ∧ rdj ≠ rd) ∨ (g = 0 ∧ opj = op ∧ rdj = rd ∧ rnj ≠ rn) ∨ (g = 0 ∧ opj = op ∧ rdj = rd ∧ rnj = rn ∧ rmj ≠ rm) ∨ (g = 0 ∧ opj = op ∧ rdj = rd ∧ rnj = rn ∧ rmj = rm ∧ immj ≠ imm) ∨ (g = 0 ∧ opj = op ∧ rdj = rd ∧ rnj = rn ∧ rmj = rm ∧ immj = imm ∧ condj ≠ cond) := by
    rcases hg with hg | ⟨hg, hne⟩
    · exact .inl hg
    · have hv : ¬ (opj = op ∧ rdj = rd ∧ rnj = rn ∧ rmj = rm ∧ immj = imm ∧ condj = cond) := fun h => hne (by obtain ⟨rfl, rfl, rfl, rfl, rfl, rfl⟩ := h; rfl)
      clear hne
      omega
  have G := Lib.hid hg'
  simp only [I.cells] at *
  have C1 := Lib.hid awake_any
  have C2 := Lib.hid c2
  have C3 := Lib.hid c3
  have C5 := Lib.hid c5
  have C6 := Lib.hid hc
  clear c2 c3 c5 hd hx hfi hwi hg hg' hc
  go_enter Try.func9, Try.ntmps9
  go_wp2_with fail
  refine (C1.out _).mono ?_
  rintro e w1 ⟨rfl, hb⟩
  have B1 := Lib.hid hb
  clear hb
  go_wp2_with fail
  refine (C2.out _).mono ?_
  rintro e w2 ⟨rfl, hb⟩
  have B2 := Lib.hid (below_chain B1.out hb B1.out.size)
  clear hb
  go_wp2_with fail
  refine (C3.out _).mono ?_
  rintro e w3 ⟨rfl, hb⟩
  have A3 := Lib.hid (boxed_new hb)
  have B3 := Lib.hid (below_over B2.out B2.out.size hb)
  clear hb
  go_wp2_with fail
  refine (C6.out _).mono ?_
  rintro e w4 ⟨rfl, hb⟩
  have A4 := Lib.hid (boxed_same A3.out hb)
  have B4 := Lib.hid (below_chain B3.out hb B3.out.size)
  clear hb
  obtain ⟨z0, z1, z2, z3, z4, z5, y0, y1, y2, y3, y4, y5, hl⟩ := A4.out
  go_wp2_with fail
  refine (C5.out _).mono ?_
  rintro e w5 ⟨rfl, hb⟩
  clear z0 z1 z2 z3 z4 z5 y0 y1 y2 y3 y4 y5 hl
  have A5 := Lib.hid (boxed_over A4.out hb)
  have J5 := Lib.hid (boxed_new hb)
  have B5 := Lib.hid (below_over B4.out B4.out.size hb)
  clear hb
  rcases G.out with rfl | ⟨rfl, h⟩ | ⟨rfl, rfl, h⟩ | ⟨rfl, rfl, rfl, h⟩ | ⟨rfl, rfl, rfl, rfl, h⟩ | ⟨rfl, rfl, rfl, rfl, rfl, h⟩ | ⟨rfl, rfl, rfl, rfl, rfl, rfl, h⟩
  · clear G
    go_wp2_with fail
    go_returns
    exact ⟨rfl, B5.out⟩
  all_goals (
    clear G
    have t2 := beq_eq_false_iff_ne.2 h
    clear h
    obtain ⟨z0, z1, z2, z3, z4, z5, y0, y1, y2, y3, y4, y5, hl⟩ := A5.out
    obtain ⟨v0, v1, v2, v3, v4, v5, x0, x1, x2, x3, x4, x5, hl2⟩ := J5.out
    go_wp2_with fail
    go_returns
    exact ⟨rfl, B5.out⟩)

theorem forth_any (x : Nat) (b : Int) (hx : x < 4294967296) (w : World) : Calls Try.prog 9 #[.int .u32 x, .int .i64 b] w fun e w' => e = .returned (.bool true) ∧ Below w.heap.size w w' := by
  cases hd : decR x with
  | none => exact forth_none x b hx hd w
  | some k =>
    obtain ⟨m, hm, hr⟩ : ∃ m : Nat, m < 32 ∧ (b.tmod 32 = m ∨ (1 ≤ m ∧ b.tmod 32 = -(m : Int))) := by
      have h1 := Int.tmod_lt_of_pos b (show (0 : Int) < 32 by decide)
      have h2 := Int.lt_tmod_of_pos b (show (0 : Int) < 32 by decide)
      refine ⟨(b.tmod 32).natAbs, by omega, by omega⟩
    obtain ⟨hy, hne⟩ := turned x m hx hm
    have key : ∃ (a2 : I) (g : Int), (g = 7 ∨ (g = 0 ∧ asR k x ≠ a2)) ∧ ∀ W, Calls Try.prog 16 #[.int .u32 (x ^^^ 2 ^ m : Nat)] W fun e W' => e = .returned (.tuple #[.agg a2.cells, .int .i64 g]) ∧ Below W.heap.size W W' := by
      have c := cdec_any (x ^^^ 2 ^ m) hy
      cases hd2 : decR (x ^^^ 2 ^ m) with
      | none =>
        rw [cdec_none _ hy hd2] at c
        exact ⟨⟨0, 0, 0, 0, 0, 0⟩, 7, .inl rfl, c⟩
      | some l =>
        rw [cdec_hit _ l hy hd2] at c
        refine ⟨asR l (x ^^^ 2 ^ m), 0, .inr ⟨rfl, fun h => hne ?_⟩, c⟩
        rw [← (hit_word _ l (decR_some _ l hd2).2.2).2, ← h, (hit_word _ k (decR_some _ k hd).2.2).2]
    obtain ⟨a2, g, hg, hc⟩ := key
    rcases hr with hr | ⟨h1, hr⟩
    · exact forth_up x k m b hx hd hm hr a2 g hg hc w
    · exact forth_down x k m b hx hd hm hr h1 a2 g hg hc w

end Go.Proofs.Ytjcebkkmpgafkaa
