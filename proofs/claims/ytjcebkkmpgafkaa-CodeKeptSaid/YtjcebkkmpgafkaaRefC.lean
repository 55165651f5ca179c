/-
  The reference's read.
-/
import Derived.Test.YtjcebkkmpgafkaaRefB
namespace Go.Proofs.Ytjcebkkmpgafkaa
open Go Go.RowKit Ev

/-- A letter's number in the first k signs, and how many bits it has. -/
def rd (l : List Nat) (w letter : Nat) : Nat → Nat × Nat
  | 0 => (0, 0)
  | k + 1 => if l.getD k 0 = letter then ((rd l w letter k).1 * 2 + w / 2 ^ (31 - k) % 2, (rd l w letter k).2 + 1) else rd l w letter k

theorem rd_lt (l : List Nat) (w letter : Nat) : ∀ k, (rd l w letter k).1 < 2 ^ k ∧ (rd l w letter k).2 ≤ k
  | 0 => by simp [rd]
  | k + 1 => by
    have := rd_lt l w letter k
    have h2 : w / 2 ^ (31 - k) % 2 < 2 := Nat.mod_lt _ (by decide)
    have h3 : 2 ^ (k + 1) = 2 * 2 ^ k := by rw [Nat.pow_succ]; omega
    simp only [rd]
    split
    · simp only; omega
    · omega

theorem one_bit (x : Nat) (h : x < 4294967296) : bits .and .u32 (x : Int) 1 = ((x % 2 : Nat) : Int) := by
  have := mask32 x 1 h (by decide)
  simpa using this

theorem shr_cast (w : Nat) (j : Nat) : ((w : Int) / 2 ^ j) = ((w / 2 ^ j : Nat) : Int) := by simp

set_option maxHeartbeats 1000000 in
theorem rread_any (k letter w : Nat) (hk : k < 48) (hk1 : 1 ≤ k) (hw : w < 4294967296) (w0 : World) :
    Calls Try.prog 54 #[.string (patS k), .int .u32 w, .int .u8 letter] w0 fun e w' => e = .returned (.tuple #[.int .i64 (rd (patL k) w letter 32).1, .int .i64 (rd (patL k) w letter 32).2]) ∧ w' = w0 := by
  have hsz := patS_size k
  have hat := fun j => patS_at k j hk
  have hlen : (patL k).length = 32 := (by decide +kernel : ∀ k, k < 48 → 1 ≤ k → (patL k).length = 32) k hk hk1
  generalize patS k = s at *
  generalize patL k = l at *
  rw [hlen] at hsz
  have HA := Lib.hid hat
  have hs1 : s.size ≤ 32 := by omega
  have hs2 : 32 ≤ s.size := by omega
  clear hat hsz
  have HL := Lib.hid hlen
  clear hlen
  go_enter Try.func54, Try.ntmps54
  go_wp2_with fail
  go_loop [8, 9, 10] (fun v n i => ∃ j : Nat, j ≤ 32 ∧ i = .int .i64 j ∧ v = .int .i64 (rd l w letter j).1 ∧ n = .int .i64 (rd l w letter j).2) (fun _ _ i => 32 - (intOf i).toNat)
  case atStart => exact ⟨0, by omega, rfl, rfl, rfl⟩
  case round =>
    obtain ⟨j, hj, rfl, rfl, rfl⟩ := hrel
    by_cases hjs : j < 32
    · have hv := HA.out j (by omega) (by rw [HL.out]; exact hjs)
      have hlj : l.getD j 0 = l[j]'(by rw [HL.out]; exact hjs) := by simp [List.getD_eq_getElem?_getD, HL.out, hjs]
      have hb := rd_lt l w letter j
      have hpow : 2 ^ j ≤ 2 ^ 31 := Nat.pow_le_pow_right (by decide) (by omega)
      have hstep : rd l w letter (j + 1) = if l.getD j 0 = letter then ((rd l w letter j).1 * 2 + w / 2 ^ (31 - j) % 2, (rd l w letter j).2 + 1) else rd l w letter j := rfl
      have hx := shr_cast w (31 - j)
      have hxl : w / 2 ^ (31 - j) < 4294967296 := Nat.lt_of_le_of_lt (Nat.div_le_self _ _) hw
      generalize w / 2 ^ (31 - j) = x at hstep hx hxl
      have hbit := one_bit x hxl
      have hbl : x % 2 < 2 := Nat.mod_lt _ (by decide)
      generalize x % 2 = y at hstep hbit hbl
      have hcc : ((s[j]).toNat : Int) = (l.getD j 0 : Int) := by rw [hlj, hv]
      have HC := Lib.hid hcc
      have HS := Lib.hid hstep
      have hq1 : (rd l w letter j).1 < 2147483648 := by have : (2 : Nat) ^ 31 = 2147483648 := rfl; omega
      have hq2 : (rd l w letter j).2 ≤ 32 := by omega
      clear hv hlj hb hpow hstep hcc hxl
      generalize rd l w letter j = q at *
      obtain ⟨qv, qn⟩ := q
      simp only at *
      generalize l.getD j 0 = lj at *
      by_cases hc : lj = letter
      · have hcb : ((s[j].toNat : Int) == (letter : Int)) = true := by rw [HC.out]; simp [hc]
        have HQ : Hid (rd l w letter (j + 1) = (qv * 2 + y, qn + 1)) := by show _ = _; rw [HS.out, if_pos hc]
        clear hc
        go_wp2_with fail
        go_round
        case rel => exact ⟨j + 1, by omega, by go_num, by rw [HQ.out]; go_num, by rw [HQ.out]; go_num⟩
        case measure => simp [intOf]; omega
      · have hcb : ((s[j].toNat : Int) == (letter : Int)) = false := by rw [HC.out]; simp; omega
        have HQ : Hid (rd l w letter (j + 1) = (qv, qn)) := by show _ = _; rw [HS.out, if_neg hc]
        clear hc
        go_wp2_with fail
        go_round
        case rel => exact ⟨j + 1, by omega, by go_num, by rw [HQ.out], by rw [HQ.out]⟩
        case measure => simp [intOf]; omega
    · have : j = 32 := by omega
      subst this
      go_wp2_with fail
      go_returns
      exact ⟨rfl, rfl⟩

end Go.Proofs.Ytjcebkkmpgafkaa
