/-
  The three calls on one field: may it have a value, its bits, its number in a word.
-/
import Derived.Test.YtjcebkkmpgafkaaProg
import Derived.Test.YtjcebkkmpgafkaaBits
import Derived.Handy
import Derived.Lib.Hide
import Derived.WalkSpells
import Derived.WalkLawsBesides
import Derived.Deep.QuietTactic
import Derived.BigQuiet
namespace Go.Proofs.Ytjcebkkmpgafkaa
open Go Go.RowKit

/-- It hands back v; nothing that was there has turned. -/
def Back (f : FuncId) (args : Array Value) (v : Value) : Prop := ∀ w : World, Calls Try.prog f args w fun e w' => e = .returned v ∧ Below w.heap.size w w'

/-- It hands back v; one block is new, and some draws were made. -/
def Back1 (f : FuncId) (args : Array Value) (v : Value) (o : Obj) : Prop := ∀ w : World, Calls Try.prog f args w fun e w' => e = .returned v ∧ ∃ n, w' = (w.alloc o).drewN n

def Fld.cells (f : Fld) : Array Value := #[.int .i64 f.pos, .int .i64 f.width, .int .i64 f.lo, .int .i64 f.hi, .int .i64 f.step, .bool f.turned]

theorem ret_bool {a b : Bool} (h : a = b) : Ending.returned (.bool a) = .returned (.bool b) := by rw [h]
theorem ret_int {k : IntKind} {a b : Int} (h : a = b) : Ending.returned (.int k a) = .returned (.int k b) := by rw [h]

set_option maxHeartbeats 400000 in
theorem in_any (f : Fld) (v : Int) (hs : 0 ≤ f.step) (hs' : f.step ≤ 8) : Back1 49 #[.agg f.cells, .int .i64 v] (.bool (inB f v)) (.cells f.cells 61) := by
  intro w
  obtain ⟨p, wd, lo, hi, st, t⟩ := f
  simp only [Fld.cells] at *
  by_cases h0 : st = 0
  · subst h0
    go_enter Try.func49, Try.ntmps49
    go_wp2
    go_returns
    exact ⟨ret_bool (by simp [inB]), 0, rfl⟩
  · have hst : (st == 0) = false := by simpa using h0
    by_cases h1 : lo ≤ v
    · by_cases h2 : v ≤ hi
      · have hm : IntKind.i64.wrap (v.tmod st) = v.tmod st := IntWalk.i64_in _ (by
          have := Int.tmod_lt_of_pos v (b := st) (by omega)
          have h3 := Int.lt_tmod_of_pos v (b := st) (by omega)
          omega)
        have HM := Lib.hid hm
        clear hm
        go_enter Try.func49, Try.ntmps49
        go_wp2
        go_returns
        refine ⟨ret_bool ?_, 0, rfl⟩
        simp [inB, h0, h1, h2]
      · have hd : decide (v ≤ hi) = false := by simpa using h2
        go_enter Try.func49, Try.ntmps49
        go_wp2
        go_returns
        refine ⟨ret_bool ?_, 0, rfl⟩
        simp only [inB, h0, if_false]
        have : decide (v ≤ hi) = false := by simp; omega
        simp [this]
    · have hd : decide (lo ≤ v) = false := by simpa using h1
      go_enter Try.func49, Try.ntmps49
      go_wp2
      go_returns
      refine ⟨ret_bool ?_, 0, rfl⟩
      simp only [inB, h0, if_false]
      have : decide (lo ≤ v) = false := by simp; omega
      simp [this]


set_option maxHeartbeats 400000 in
theorem lay_any (f : Fld) (v : Int) (hv1 : -9223372036854775808 ≤ v) (hv2 : v ≤ 9223372036854775807) (hg : f.good = true) : Back1 50 #[.agg f.cells, .int .i64 v] (.int .u32 (layN f v : Nat)) (.cells f.cells 61) := by
  intro w
  obtain ⟨p, wd, lo, hi, st, t⟩ := f
  have hg' := hg
  simp only [Fld.good, Bool.and_eq_true, Bool.or_eq_true, decide_eq_true_eq, beq_iff_eq] at hg'
  obtain ⟨⟨⟨⟨⟨⟨⟨⟨⟨hp, hw⟩, hst⟩, _⟩, _⟩, _⟩, _⟩, _⟩, _⟩, _⟩ := hg'
  clear hg
  simp only [Fld.cells] at *
  by_cases h0 : wd = 0
  · subst h0
    clear hst
    go_enter Try.func50, Try.ntmps50
    go_wp2
    go_returns
    exact ⟨rfl, 0, rfl⟩
  · have hwd : ((wd : Int) == 0) = false := by simp; omega
    have hst1 : 1 ≤ st := by rcases hst with h | h <;> omega
    have hst8 : st ≤ 8 := by rcases hst with h | h <;> omega
    have hwd1 : 1 ≤ wd := by omega
    have hx : ((v.tdiv st % 4294967296).toNat : Int) = v.tdiv st % 4294967296 := by omega
    have hxl : (v.tdiv st % 4294967296).toNat < 4294967296 := by omega
    have hm := mask32 (v.tdiv st % 4294967296).toNat wd hxl hw
    rw [hx] at hm
    have hlt := pow_lt32 wd hw
    have hlt2 : (v.tdiv st % 4294967296).toNat % 2 ^ wd < 4294967296 := Nat.lt_of_le_of_lt (Nat.mod_le _ _) hxl
    have fin : ((((layN ⟨p, wd, lo, hi, st, t⟩ v : Nat)) : Int)) = (if t then bits .xor .u32 (bits .and .u32 (v.tdiv st % 4294967296) (((2 : Int) ^ wd - 1) % 4294967296)) 1 else bits .and .u32 (v.tdiv st % 4294967296) (((2 : Int) ^ wd - 1) % 4294967296)) * 2 ^ p % 4294967296 := by
      unfold layN
      rw [hm]
      have hxo := xor32 _ 1 hlt2 (by decide)
      simp only [Int.natCast_one] at hxo
      rw [hxo]
      simp only [h0, if_false]
      cases t <;> simp
    have HF := Lib.hid fin
    clear hst hx hxl hm hlt hlt2 fin
    cases t
    all_goals
      go_enter Try.func50, Try.ntmps50
      go_wp2
      go_quiet (fail)
      go_wp2
      go_returns
      refine ⟨ret_int ?_, _, rfl⟩
      rw [HF.out]
      rfl


theorem bits_cast (v : Nat) (p wd : Nat) (hv : v < 4294967296) (hw : wd < 32) : bits .and .u32 ((v : Int) / 2 ^ p) (((2 : Int) ^ wd - 1) % 4294967296) = ((v / 2 ^ p % 2 ^ wd : Nat) : Int) := by
  have : ((v : Int) / 2 ^ p) = ((v / 2 ^ p : Nat) : Int) := by simp
  rw [this]
  exact mask32 _ _ (Nat.lt_of_le_of_lt (Nat.div_le_self _ _) hv) hw

set_option maxHeartbeats 400000 in
/-- A field that begins at nought. -/
theorem read_plain (f : Fld) (v : Nat) (hv : v < 4294967296) (hg : f.good = true) (hlo : f.lo = 0) : Back1 47 #[.agg f.cells, .int .u32 v] (.int .i64 (readN f v)) (.cells f.cells 61) := by
  intro w
  obtain ⟨p, wd, lo, hi, st, t⟩ := f
  have hg' := hg
  simp only [Fld.good, Bool.and_eq_true, Bool.or_eq_true, decide_eq_true_eq, beq_iff_eq] at hg'
  obtain ⟨⟨⟨⟨⟨⟨⟨⟨⟨hp, hw⟩, hst⟩, _⟩, _⟩, _⟩, _⟩, _⟩, _⟩, htu⟩ := hg'
  clear hg
  simp only at hlo
  subst hlo
  simp only [Fld.cells] at *
  by_cases h0 : wd = 0
  · subst h0
    clear hst htu
    go_enter Try.func47, Try.ntmps47
    go_wp2
    go_returns
    exact ⟨rfl, 0, rfl⟩
  · have hwd : ((wd : Int) == 0) = false := by simp; omega
    have hst1 : 1 ≤ st := by rcases hst with h | h <;> omega
    have hst8 : st ≤ 8 := by rcases hst with h | h <;> omega
    have hwd1 : 1 ≤ wd := by omega
    have hm := bits_cast v p wd hv hw
    have hlt := pow_lt32 wd hw
    have hN : readN ⟨p, wd, 0, hi, st, t⟩ v = (((if t then (v / 2 ^ p % 2 ^ wd) ^^^ 1 else v / 2 ^ p % 2 ^ wd : Nat)) : Int) * st := by
      simp [readN, h0]
    generalize hx : v / 2 ^ p % 2 ^ wd = x at hm hN
    have hxl : x < 2 ^ wd := by rw [← hx]; exact Nat.mod_lt _ (Nat.two_pow_pos _)
    have hxl32 : x < 4294967296 := Nat.lt_trans hxl hlt
    have hxo := xor64 x 1 hxl32 (by decide)
    simp only [Int.natCast_one] at hxo
    clear hst hx hxl hlt
    rw [hN]
    clear hN
    cases t
    · simp only [Bool.false_eq_true, if_false]
      have hm1 : 0 ≤ (x : Int) * st := Int.mul_nonneg (by omega) (by omega)
      have hm2 : (x : Int) * st ≤ 34359738368 := Int.le_trans (Int.mul_le_mul (c := 4294967296) (d := 8) (by omega) hst8 (by omega) (by omega)) (by decide)
      clear hxo htu
      go_enter Try.func47, Try.ntmps47
      go_wp2
      go_quiet (fail)
      go_wp2
      go_returns
      exact ⟨rfl, _, rfl⟩
    · simp only [if_true]
      have hy : x ^^^ 1 < 4294967296 := Nat.xor_lt_two_pow (n := 32) hxl32 (by decide)
      have hm1 : 0 ≤ ((x ^^^ 1 : Nat) : Int) * st := Int.mul_nonneg (by omega) (by omega)
      have hm2 : ((x ^^^ 1 : Nat) : Int) * st ≤ 34359738368 := Int.le_trans (Int.mul_le_mul (c := 4294967296) (d := 8) (by omega) hst8 (by omega) (by omega)) (by decide)
      clear htu
      go_enter Try.func47, Try.ntmps47
      go_wp2
      go_quiet (fail)
      go_wp2
      go_returns
      exact ⟨rfl, _, rfl⟩

def near26 : Fld := ⟨0, 26, -33554432, 33554431, 1, false⟩
def near19 : Fld := ⟨5, 19, -262144, 262143, 1, false⟩

set_option maxHeartbeats 400000 in
/-- A field of numbers on both sides of nought. -/
theorem read_near (p wd x n m v : Nat) (lo hi : Int) (hp : p < 32) (hw : wd < 32) (hw1 : 1 ≤ wd) (hlo : lo < 0) (hx : x < m) (hmn : m ≤ 4294967295) (hn : n ≤ 2147483647)
    (e1 : (2 : Int) ^ (wd - 1) = n) (e2 : (2 : Int) ^ wd = m) (e3 : bits .and .u32 ((v : Int) / 2 ^ p) ((m : Int) - 1) = x) :
    Back1 47 #[.agg #[.int .i64 p, .int .i64 wd, .int .i64 lo, .int .i64 hi, .int .i64 1, .bool false], .int .u32 v] (.int .i64 (if n ≤ x then (x : Int) - m else x)) (.cells #[.int .i64 p, .int .i64 wd, .int .i64 lo, .int .i64 hi, .int .i64 1, .bool false] 61) := by
  intro w
  have hwd : ((wd : Int) == 0) = false := by simp; omega
  by_cases hc : n ≤ x
  · rw [if_pos hc]
    go_enter Try.func47, Try.ntmps47
    go_wp2
    go_quiet (fail)
    go_wp2
    go_returns
    exact ⟨rfl, _, rfl⟩
  · rw [if_neg hc]
    go_enter Try.func47, Try.ntmps47
    go_wp2
    go_quiet (fail)
    go_wp2
    go_returns
    exact ⟨rfl, _, rfl⟩

theorem read_near26 (v : Nat) (hv : v < 4294967296) : Back1 47 #[.agg near26.cells, .int .u32 v] (.int .i64 (readN near26 v)) (.cells near26.cells 61) := by
  have h := read_near 0 26 (v / 2 ^ 0 % 2 ^ 26) (2 ^ 25) (2 ^ 26) v (-33554432) 33554431 (by decide) (by decide) (by decide) (by decide) (Nat.mod_lt _ (by decide)) (by decide) (by decide) (by simp) (by simp)
    (by have := bits_cast v 0 26 hv (by decide); simpa using this)
  have hN : readN near26 v = if 2 ^ 25 ≤ v / 2 ^ 0 % 2 ^ 26 then ((v / 2 ^ 0 % 2 ^ 26 : Nat) : Int) - ((2 ^ 26 : Nat) : Int) else ((v / 2 ^ 0 % 2 ^ 26 : Nat) : Int) := by
    simp [readN, near26]
  rw [hN]
  exact h

theorem read_near19 (v : Nat) (hv : v < 4294967296) : Back1 47 #[.agg near19.cells, .int .u32 v] (.int .i64 (readN near19 v)) (.cells near19.cells 61) := by
  have h := read_near 5 19 (v / 2 ^ 5 % 2 ^ 19) (2 ^ 18) (2 ^ 19) v (-262144) 262143 (by decide) (by decide) (by decide) (by decide) (Nat.mod_lt _ (by decide)) (by decide) (by decide) (by simp) (by simp)
    (by have := bits_cast v 5 19 hv (by decide); simpa using this)
  have hN : readN near19 v = if 2 ^ 18 ≤ v / 2 ^ 5 % 2 ^ 19 then ((v / 2 ^ 5 % 2 ^ 19 : Nat) : Int) - ((2 ^ 19 : Nat) : Int) else ((v / 2 ^ 5 % 2 ^ 19 : Nat) : Int) := by
    simp [readN, near19]
  rw [hN]
  exact h

def Row.nice (r : Row) : Bool := r.good && decide (∀ f ∈ [r.f0, r.f1, r.f2, r.f3, r.f4], f.lo = 0 ∨ f = near26 ∨ f = near19)
theorem rowOf_nice : ∀ op, op < 48 → (rowOf op).nice = true := by decide +kernel

theorem read_any (f : Fld) (v : Nat) (hv : v < 4294967296) (hg : f.good = true) (hn : f.lo = 0 ∨ f = near26 ∨ f = near19) : Back1 47 #[.agg f.cells, .int .u32 v] (.int .i64 (readN f v)) (.cells f.cells 61) := by
  rcases hn with h | rfl | rfl
  · exact read_plain f v hv hg h
  · exact read_near26 v hv
  · exact read_near19 v hv

end Go.Proofs.Ytjcebkkmpgafkaa
