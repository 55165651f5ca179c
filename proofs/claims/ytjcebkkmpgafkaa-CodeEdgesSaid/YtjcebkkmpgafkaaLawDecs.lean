/-
  decodes: of an operation's words with all bits of one field: is Decode the reference's?
-/
import Derived.Test.YtjcebkkmpgafkaaLawB
import Derived.Deep.RegionWith
import Derived.Deep.Quiet
namespace Go.Proofs.Ytjcebkkmpgafkaa
open Go Go.RowKit Ev

def lettersC : Array Value := #[.int .u8 100, .int .u8 110, .int .u8 109, .int .u8 105, .int .u8 99, .int .u8 107, .int .u8 114, .int .u8 115]

theorem letter_at {w W : World} {t : TypeId} (h : Below (w.heap.size + 1) (w.alloc (.cells lettersC t)) W) (n : Nat) (hn : n < 8) : ∃ L : Nat, L < 256 ∧ W.cell? ⟨w.heap.size, n, none⟩ = some (.int .u8 (L : Int)) := by
  have hc := h.cell (p := ⟨w.heap.size, n, none⟩) (by show w.heap.size < _; omega)
  have : (w.alloc (.cells lettersC t)).cell? ⟨w.heap.size, n, none⟩ = lettersC[n]? := by
    show (match (w.heap.push (Obj.cells lettersC t))[w.heap.size]? with | some (.cells c _ _) => if (none : Option Nat).isSome then none else c[n]? | _ => none) = _
    simp
  rw [hc, this]
  rcases (show n = 0 ∨ n = 1 ∨ n = 2 ∨ n = 3 ∨ n = 4 ∨ n = 5 ∨ n = 6 ∨ n = 7 by omega) with rfl | rfl | rfl | rfl | rfl | rfl | rfl | rfl
  · exact ⟨100, by decide, rfl⟩
  · exact ⟨110, by decide, rfl⟩
  · exact ⟨109, by decide, rfl⟩
  · exact ⟨105, by decide, rfl⟩
  · exact ⟨99, by decide, rfl⟩
  · exact ⟨107, by decide, rfl⟩
  · exact ⟨114, by decide, rfl⟩
  · exact ⟨115, by decide, rfl⟩

theorem below_drew {B n : Nat} {W0 W : World} (h : Below B W0 W) : Hid (Below B W0 (W.drewN n)) := ⟨h.os, h.tape, h.output, h.size, h.block⟩

theorem set_bit (x m : Nat) (hx : x < 4294967296) (hm : m < 32) : ∃ y : Nat, y < 4294967296 ∧ bits .or .u32 (x : Int) (2 ^ m % 4294967296) = (y : Int) := by
  have h1 : 2 ^ m < 4294967296 := pow_lt32 m hm
  have h3 : ((2 : Int) ^ m) = ((2 ^ m : Nat) : Int) := by simp
  have h2 : ((2 : Int) ^ m % 4294967296) = ((2 ^ m : Nat) : Int) := by
    rw [h3]; exact Int.emod_eq_of_lt (Int.natCast_nonneg _) (by omega)
  exact ⟨x ||| 2 ^ m, Nat.or_lt_two_pow (n := 32) hx h1, by rw [h2, or32 x _ hx h1]⟩

theorem dec_both (x : Nat) (hx : x < 4294967296) : ∃ (a : I) (g : Int) (ok : Bool), ((g = 0 ∧ ok = true) ∨ (g = 7 ∧ ok = false)) ∧
    (∀ W, Calls Try.prog 16 #[.int .u32 x] W fun e W' => e = .returned (.tuple #[.agg a.cells, .int .i64 g]) ∧ Below W.heap.size W W') ∧
    (∀ W, Calls Try.prog 25 #[.int .u32 x] W fun e W' => e = .returned (.tuple #[.agg a.cells, .bool ok]) ∧ Below W.heap.size W W') := by
  have c1 := cdec_any x hx
  have c2 := rdec_any x hx
  unfold decV at c2
  cases hd : decR x with
  | none =>
    rw [cdec_none x hx hd] at c1
    rw [hd] at c2
    exact ⟨⟨0, 0, 0, 0, 0, 0⟩, 7, false, .inr ⟨rfl, rfl⟩, c1, c2⟩
  | some k =>
    rw [cdec_hit x k hx hd] at c1
    rw [hd] at c2
    exact ⟨asR k x, 0, true, .inl ⟨rfl, rfl⟩, c1, c2⟩

set_option maxHeartbeats 4000000 in
theorem decs_any (k : Nat) (hk1 : 1 ≤ k) (hk : k < 48) (w : World) : Calls Try.prog 19 #[.int .i64 (k : Nat)] w fun e w' => e = .returned (.bool true) ∧ Below w.heap.size w w' := by
  have c1 : ∀ W, Calls Try.prog 34 #[.int .i64 (k : Nat)] W fun e W' => e = .returned (.string (patS k)) ∧ Below W.heap.size W W' := fun W => (pat_in k hk1 hk W).mono fun _ _ h => ⟨h.1, h.2.1⟩
  have hsz := patS_size k
  have hlen : (patL k).length = 32 := (by decide +kernel : ∀ k, k < 48 → 1 ≤ k → (patL k).length = 32) k hk hk1
  rw [hlen] at hsz
  clear hlen
  generalize patS k = s at *
  have hs1 : s.size ≤ 32 := by omega
  have hs2 : 32 ≤ s.size := by omega
  clear hsz
  have C1 := Lib.hid c1
  clear c1
  go_enter Try.func19, Try.ntmps19
  go_wp2_with fail
  refine (C1.out _).mono ?_
  rintro e w1 ⟨rfl, hb⟩
  have hb1 : Below (w.heap.size + 1) (w.alloc (.cells lettersC 69)) w1 := by simpa [lettersC] using hb
  have HB1 := Lib.hid hb1
  clear hb hb1
  go_wp2_with fail
  go_loopw [5] (fun i wr => ∃ n : Nat, n ≤ 8 ∧ i = .int .i64 (n : Int) ∧ Hid (Below (w.heap.size + 1) (w.alloc (.cells lettersC 69)) wr)) (fun i _ => 8 - (intOf i).toNat)
  case atStart => exact ⟨0, by omega, by go_num, HB1⟩
  case round =>
    obtain ⟨n, hn, rfl, hB⟩ := hrel
    by_cases hn8 : n < 8
    · obtain ⟨L, hL, hcell⟩ := letter_at hB.out n hn8
      have hL0 : (L : Int) = (L : Int) := rfl
      clear hcell hL hL0
      go_wp2_with fail
      go_loopw [6, 7] (fun v i wq => ∃ x j : Nat, x < 4294967296 ∧ j ≤ 32 ∧ v = .int .u32 (x : Int) ∧ i = .int .i64 (j : Int) ∧ Hid (Below (w.heap.size + 1) (w.alloc (.cells lettersC 69)) wq)) (fun _ i _ => 32 - (intOf i).toNat)
      case atStart => exact ⟨0, 0, by omega, by omega, by go_num, by go_num, hB⟩
      case round =>
        obtain ⟨x, j, hx, hj, rfl, rfl, hB2⟩ := hrel
        by_cases hj32 : j < 32
        · obtain ⟨L, hL, hcell⟩ := letter_at hB2.out n hn8
          have hjs : j < s.size := by omega
          have hsh : IntKind.i64.wrap (31 - (j : Int)) = ((31 - j : Nat) : Int) := by rw [IntWalk.i64_in _ (by omega)]; omega
          cases hc1 : ((s[j].toNat : Int) == 49)
          · cases hc2 : ((s[j].toNat : Int) == (L : Int))
            · go_wp2_with fail
              go_quiet (fail)
              go_wp2_with fail
              go_roundw
              case rel => exact ⟨x, j + 1, hx, by omega, by go_num, by go_num, below_drew hB2.out⟩
              case measure => simp [intOf]; omega
            · obtain ⟨y, hy, hset⟩ := set_bit x (31 - j) hx (by omega)
              go_wp2_with fail
              go_quiet (fail)
              go_wp2_with fail
              go_roundw
              case rel => exact ⟨y, j + 1, hy, by omega, by go_num, by go_num, below_drew hB2.out⟩
              case measure => simp [intOf]; omega
          · obtain ⟨y, hy, hset⟩ := set_bit x (31 - j) hx (by omega)
            go_wp2_with fail
            go_quiet (fail)
            go_wp2_with fail
            go_roundw
            case rel => exact ⟨y, j + 1, hy, by omega, by go_num, by go_num, below_drew hB2.out⟩
            case measure => simp [intOf]; omega
        · have : j = 32 := by omega
          subst this
          obtain ⟨a, g, ok, hgo, c2, c3⟩ := dec_both x hx
          have c4 := api_call a
          obtain ⟨op, rd, rn, rm, imm, cond⟩ := a
          simp only [I.cells] at *
          have C2 := Lib.hid c2
          have C3 := Lib.hid c3
          have C4 := Lib.hid c4
          clear c2 c3 c4
          go_wp2_with fail
          refine (C2.out _).mono ?_
          rintro e w2 ⟨rfl, hb⟩
          have hs0 : w.heap.size + 1 ≤ wr.heap.size := by have := hB2.out.size; simpa using this
          have S2 : Hid (w.heap.size + 1 ≤ w2.heap.size) := Nat.le_trans hs0 hb.size
          have B2 := Lib.hid (below_chain hB2.out hb hs0)
          clear hb hs0
          go_wp2_with fail
          refine (C3.out _).mono ?_
          rintro e w3 ⟨rfl, hb⟩
          have A3 := Lib.hid (boxed_new hb)
          have B3 := Lib.hid (below_over B2.out S2.out hb)
          have S3 : Hid (w.heap.size + 1 ≤ w3.heap.size) := Nat.le_trans S2.out (Nat.le_trans (by simp) hb.size)
          clear hb
          go_wp2_with fail
          have A4 : Hid (Boxed w2.heap.size (.int .i64 op) (.int .i64 rd) (.int .i64 rn) (.int .i64 rm) (.int .i64 imm) (.int .i64 cond) (w3.alloc (.cells #[.int .i64 op, .int .i64 rd, .int .i64 rn, .int .i64 rm, .int .i64 imm, .int .i64 cond] 34))) := boxed_over A3.out (Below.refl _ _)
          have D4 : Hid (Boxed w3.heap.size (.int .i64 op) (.int .i64 rd) (.int .i64 rn) (.int .i64 rm) (.int .i64 imm) (.int .i64 cond) (w3.alloc (.cells #[.int .i64 op, .int .i64 rd, .int .i64 rn, .int .i64 rm, .int .i64 imm, .int .i64 cond] 34))) := boxed_new (Below.refl _ _)
          have B4 : Hid (Below (w.heap.size + 1) (w.alloc (.cells lettersC 69)) (w3.alloc (.cells #[.int .i64 op, .int .i64 rd, .int .i64 rn, .int .i64 rm, .int .i64 imm, .int .i64 cond] 34))) := below_over B3.out S3.out (Below.refl _ _)
          have S4 : Hid (w.heap.size + 1 ≤ (w3.alloc (.cells #[.int .i64 op, .int .i64 rd, .int .i64 rn, .int .i64 rm, .int .i64 imm, .int .i64 cond] 34)).heap.size) := Nat.le_trans S3.out (by simp)
          clear A3 B3 B2 S2 S3
          generalize (w3.alloc (.cells #[.int .i64 op, .int .i64 rd, .int .i64 rn, .int .i64 rm, .int .i64 imm, .int .i64 cond] 34)) = V at *
          generalize w3.heap.size = b3 at *
          generalize w2.heap.size = b2 at *
          obtain ⟨z0, z1, z2, z3, z4, z5, y0, y1, y2, y3, y4, y5, hl⟩ := A4.out
          obtain ⟨v0, v1, v2, v3, v4, v5, x0, x1, x2, x3, x4, x5, hl2⟩ := D4.out
          rcases hgo with ⟨rfl, rfl⟩ | ⟨rfl, rfl⟩
          all_goals (
            go_region_with (first
              | (go_at_call 26; refine (C4.out _).mono ?_; rintro e w' ⟨rfl, hb⟩; have A4 := Lib.hid (boxed_at A4.out hb rfl); have D4 := Lib.hid (boxed_at D4.out hb rfl); have B4 := Lib.hid (below_at B4.out hb S4.out rfl rfl rfl rfl); have S4 := Lib.hid (Nat.le_trans S4.out hb.size); clear hb; obtain ⟨z0, z1, z2, z3, z4, z5, y0, y1, y2, y3, y4, y5, hl⟩ := A4.out; obtain ⟨v0, v1, v2, v3, v4, v5, x0, x1, x2, x3, x4, x5, hl2⟩ := D4.out))
            all_goals (
              go_wp2_with fail
              go_roundw
              case rel => exact ⟨n + 1, by omega, by go_num, B4⟩
              case measure => simp [intOf]; omega))
    · have : n = 8 := by omega
      subst this
      go_wp2_with fail
      have hb0 : Below w.heap.size w wr := ((Below.refl _ _).alloc (Nat.le_refl _) _).trans (Below.mono hB.out (by omega))
      go_returns
      exact ⟨rfl, hb0⟩

end Go.Proofs.Ytjcebkkmpgafkaa
