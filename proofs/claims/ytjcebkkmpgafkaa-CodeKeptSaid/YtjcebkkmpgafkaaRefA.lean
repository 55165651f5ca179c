/-
  The reference's small calls: Has, between, top, imm, cond.
-/
import Derived.Test.YtjcebkkmpgafkaaPatW
import Derived.Handy
import Derived.Lib.Hide
import Derived.WalkSpells
import Derived.WalkLawsBesides
namespace Go.Proofs.Ytjcebkkmpgafkaa
open Go Go.RowKit Ev

theorem gives_here {f : FuncId} {args : Array Value} {v : Value} (h : ∀ w : World, Calls Try.prog f args w fun e w' => e = .returned v ∧ w' = w) : Gives Try.prog f args v 0 := fun W =>
  (h W).mono fun e W' ⟨he, hw⟩ => ⟨he, by rw [hw]; exact Below.refl _ _, by rw [hw]; rfl⟩

def betB (v lo hi : Int) : Bool := decide (lo ≤ v) && decide (v ≤ hi)

theorem ret_b {a b : Bool} (h : a = b) : Ending.returned (.bool a) = .returned (.bool b) := by rw [h]
theorem ret_i {k : IntKind} {a b : Int} (h : a = b) : Ending.returned (.int k a) = .returned (.int k b) := by rw [h]

theorem between_any (v lo hi : Int) (w : World) : Calls Try.prog 52 #[.int .i64 v, .int .i64 lo, .int .i64 hi] w fun e w' => e = .returned (.bool (betB v lo hi)) ∧ w' = w := by
  by_cases h : lo ≤ v
  · go_enter Try.func52, Try.ntmps52
    go_wp2
    go_returns
    exact ⟨ret_b (by simp [betB, h]), rfl⟩
  · have hd : decide (lo ≤ v) = false := by simpa using h
    go_enter Try.func52, Try.ntmps52
    go_wp2
    go_returns
    exact ⟨ret_b (by have : decide (lo ≤ v) = false := by simp; omega
                     simp [betB, this]), rfl⟩

/-- The highest register. -/
def topV (op : Int) (letter : Int) : Int :=
  if op = 12 ∨ op = 13 then 30 else
  if letter = 109 ∧ (op = 28 ∨ op = 29 ∨ (36 ≤ op ∧ op ≤ 39)) then 30 else
  if letter = 110 ∧ ((22 ≤ op ∧ op ≤ 29) ∨ 35 ≤ op) then 30 else
  if letter = 100 ∧ 40 ≤ op then 30 else 31

set_option maxHeartbeats 1000000 in
theorem top_100 (op : Int) (w : World) : Calls Try.prog 53 #[.int .i64 op, .int .u8 100] w fun e w' => e = .returned (.int .i64 (topV op 100)) ∧ w' = w := by
  go_enter Try.func53, Try.ntmps53
  go_wp2
  all_goals
    go_returns
    refine ⟨ret_i ?_, rfl⟩
    try simp at *
    unfold topV
    (repeat' split) <;> first | rfl | (exfalso; omega)

set_option maxHeartbeats 1000000 in
theorem top_110 (op : Int) (w : World) : Calls Try.prog 53 #[.int .i64 op, .int .u8 110] w fun e w' => e = .returned (.int .i64 (topV op 110)) ∧ w' = w := by
  go_enter Try.func53, Try.ntmps53
  go_wp2
  all_goals
    go_returns
    refine ⟨ret_i ?_, rfl⟩
    try simp at *
    unfold topV
    (repeat' split) <;> first | rfl | (exfalso; omega)

set_option maxHeartbeats 1000000 in
theorem top_109 (op : Int) (w : World) : Calls Try.prog 53 #[.int .i64 op, .int .u8 109] w fun e w' => e = .returned (.int .i64 (topV op 109)) ∧ w' = w := by
  go_enter Try.func53, Try.ntmps53
  go_wp2
  all_goals
    go_returns
    refine ⟨ret_i ?_, rfl⟩
    try simp at *
    unfold topV
    (repeat' split) <;> first | rfl | (exfalso; omega)


def immB (op v : Int) : Bool :=
  if op = 1 ∨ op = 2 then betB v 0 65535 else
  if op = 12 ∨ op = 13 then betB v 0 4095 else
  if op = 14 then betB v 1 63 else
  if op = 15 then betB v 0 63 else
  if op = 18 then betB v (-33554432) 33554431 else
  if op = 19 ∨ op = 20 ∨ op = 21 then betB v (-262144) 262143 else
  if op = 22 ∨ op = 23 then betB v 0 32760 && (v.tmod 8 == 0) else
  if op = 33 then betB v 0 30 else v == 0

set_option maxHeartbeats 1000000 in
theorem imm_any (op v : Int) (hv : -9223372036854775808 ≤ v ∧ v ≤ 9223372036854775807) (w : World) : Calls Try.prog 36 #[.int .i64 op, .int .i64 v] w fun e w' => e = .returned (.bool (immB op v)) ∧ w' = w := by
  obtain ⟨hv1, hv2⟩ := hv
  have hm : IntKind.i64.wrap (v.tmod 8) = v.tmod 8 := IntWalk.i64_in _ (by
    have := Int.tmod_lt_of_pos v (b := 8) (by omega)
    have h3 := Int.lt_tmod_of_pos v (b := 8) (by omega)
    omega)
  have HM := Lib.hid hm
  clear hm
  go_enter Try.func36, Try.ntmps36
  go_wp2_with (go_at_call 52; go_call (between_any _ _ _ _) as _ _ ⟨rfl, rfl⟩)
  all_goals
    go_returns
    refine ⟨ret_b ?_, rfl⟩
    try simp at *
    unfold immB
    (repeat' split) <;> first | rfl | (exfalso; omega) | (simp [*]; done) | (simp; omega)

def condB (op v : Int) : Bool :=
  if op = 1 ∨ op = 2 then betB v 0 3 else if op = 17 ∨ op = 19 then betB v 0 13 else v == 0

set_option maxHeartbeats 1000000 in
theorem cond_any (op v : Int) (w : World) : Calls Try.prog 37 #[.int .i64 op, .int .i64 v] w fun e w' => e = .returned (.bool (condB op v)) ∧ w' = w := by
  go_enter Try.func37, Try.ntmps37
  go_wp2
  all_goals
    go_returns
    refine ⟨ret_b ?_, rfl⟩
    try simp at *
    unfold condB betB
    (repeat' split) <;> first | rfl | (exfalso; omega) | (simp [*]; done) | (simp; omega)

/-- Is a letter among the signs? -/
def hasB (op letter : Int) : Bool := (patL (patNo op)).any fun x => (x : Int) == letter

theorem patS_size (k : Nat) : (patS k).size = (patL k).length := by
  show ((patL k).map _).toArray.size = _
  simp

theorem patL_small : ∀ k, k < 48 → ∀ x ∈ patL k, x < 256 := by decide +kernel
theorem patNo_lt (op : Int) : patNo op < 48 := by unfold patNo; split <;> omega

theorem patS_at (k j : Nat) (hk : k < 48) (h : j < (patS k).size) (h' : j < (patL k).length) : ((patS k)[j]).toNat = (patL k)[j] := by
  have hx := patL_small k hk (patL k)[j] (List.getElem_mem _)
  have e : (patS k)[j] = UInt8.ofNat (patL k)[j] := by
    show (((patL k).map fun n : Nat => UInt8.ofNat n).toArray)[j]'(by simpa using h') = _
    simp
  rw [e]
  simp
  omega

theorem any_take_succ (l : List Nat) (p : Nat → Bool) (j : Nat) (h : j < l.length) : (l.take (j + 1)).any p = ((l.take j).any p || p l[j]) := by
  rw [List.take_succ_eq_append_getElem h, List.any_append]
  simp

set_option maxHeartbeats 1000000 in
theorem has_any (op letter : Int) : ∃ n, Gives Try.prog 51 #[.int .i64 op, .int .u8 letter] (.bool (hasB op letter)) n := by
  obtain ⟨n, hn⟩ := pat_gives op
  refine ⟨n, fun w => ?_⟩
  have hlt := patNo_lt op
  have hsz := patS_size (patNo op)
  have hat := fun j => patS_at (patNo op) j hlt
  have hlen : (patL (patNo op)).length ≤ 32 := (by decide +kernel : ∀ k, k < 48 → (patL k).length ≤ 32) _ hlt
  have hdef : hasB op letter = (patL (patNo op)).any fun x => (x : Int) == letter := rfl
  generalize hasB op letter = hb at hdef ⊢
  generalize patNo op = k at *
  generalize patS k = s at *
  generalize patL k = l at *
  have HN := Lib.hid hn
  have HA := Lib.hid hat
  have HD := Lib.hid hdef
  have HZ := Lib.hid hsz
  have hs32 : s.size ≤ 32 := by omega
  clear hn hat hdef hsz hlt
  go_enter Try.func51, Try.ntmps51
  go_wp2_with fail
  refine (HN.out _).mono ?_
  rintro e w1 ⟨rfl, hbl, hsize⟩
  have HB := Lib.hid hbl
  have HS := Lib.hid hsize
  clear hbl hsize
  go_wp2_with fail
  go_loop [6] (fun i => ∃ j : Nat, j ≤ s.size ∧ i = .int .i64 j ∧ Hid ((l.take j).any (fun x => (x : Int) == letter) = false)) (fun i => s.size - (intOf i).toNat)
  case atStart => exact ⟨0, Nat.zero_le _, rfl, by simp [Hid]⟩
  case round =>
    obtain ⟨j, hj, rfl, hno⟩ := hrel
    by_cases hjs : j < s.size
    · have hjl : j < l.length := by rw [← HZ.out]; exact hjs
      have hv := HA.out j hjs hjl
      have hsucc := any_take_succ l (fun x => (x : Int) == letter) j hjl
      have hv' : ((s[j]).toNat : Int) = (l[j] : Int) := by rw [hv]
      have HV := Lib.hid hv'
      have HC := Lib.hid hsucc
      clear hv hsucc hv'
      by_cases hc : ((s[j]).toNat : Int) = letter
      · have hcb : ((s[j].toNat : Int) == letter) = true := by simpa using hc
        have HCC := Lib.hid hc
        clear hc
        go_wp2_with fail
        go_returns
        refine ⟨ret_b ?_, HB.out, HS.out⟩
        rw [HD.out]
        symm
        rw [List.any_eq_true]
        exact ⟨l[j], List.getElem_mem _, by simp only [beq_iff_eq]; rw [← HV.out]; exact HCC.out⟩
      · have hcb : ((s[j].toNat : Int) == letter) = false := by simpa using hc
        have HCC := Lib.hid hc
        clear hc
        go_wp2_with fail
        go_round
        case rel =>
          refine ⟨j + 1, by omega, by go_num, ?_⟩
          show (l.take (j + 1)).any _ = false
          rw [HC.out, show (l.take j).any _ = false from hno, Bool.false_or]
          simp only [beq_eq_false_iff_ne, ne_eq]
          rw [← HV.out]
          exact HCC.out
        case measure => simp [intOf]; omega
    · go_wp2_with fail
      go_returns
      refine ⟨ret_b ?_, HB.out, HS.out⟩
      rw [HD.out]
      have hjl : j = l.length := by have := HZ.out; omega
      have : (l.take j).any (fun x => (x : Int) == letter) = false := hno
      rw [hjl, List.take_length] at this
      exact this.symm

end Go.Proofs.Ytjcebkkmpgafkaa
