/-
  Pattern of each operation, by the engine.
-/
import Derived.Test.YtjcebkkmpgafkaaProg
import Derived.Test.YtjcebkkmpgafkaaEv
import Derived.Test.YtjcebkkmpgafkaaPat
namespace Go.Proofs.Ytjcebkkmpgafkaa
open Go Ev

theorem mixedP : Try.prog.follows .mixedOrders = true := by kernel_rfl

def patS (op : Nat) : ByteArray := ⟨((patL op).map (fun n : Nat => UInt8.ofNat n)).toArray⟩

theorem pat_1 : Gives Try.prog 34 #[.int .i64 1] (.string (patS 1)) 1 := gives_of_out noSpec_holds mixedP 100 fun _ => ⟨by kernel_rfl, by kernel_rfl, by kernel_rfl⟩
theorem pat_2 : Gives Try.prog 34 #[.int .i64 2] (.string (patS 2)) 1 := gives_of_out noSpec_holds mixedP 100 fun _ => ⟨by kernel_rfl, by kernel_rfl, by kernel_rfl⟩
theorem pat_3 : Gives Try.prog 34 #[.int .i64 3] (.string (patS 3)) 1 := gives_of_out noSpec_holds mixedP 100 fun _ => ⟨by kernel_rfl, by kernel_rfl, by kernel_rfl⟩
theorem pat_4 : Gives Try.prog 34 #[.int .i64 4] (.string (patS 4)) 1 := gives_of_out noSpec_holds mixedP 100 fun _ => ⟨by kernel_rfl, by kernel_rfl, by kernel_rfl⟩
theorem pat_5 : Gives Try.prog 34 #[.int .i64 5] (.string (patS 5)) 1 := gives_of_out noSpec_holds mixedP 100 fun _ => ⟨by kernel_rfl, by kernel_rfl, by kernel_rfl⟩
theorem pat_6 : Gives Try.prog 34 #[.int .i64 6] (.string (patS 6)) 1 := gives_of_out noSpec_holds mixedP 100 fun _ => ⟨by kernel_rfl, by kernel_rfl, by kernel_rfl⟩
theorem pat_7 : Gives Try.prog 34 #[.int .i64 7] (.string (patS 7)) 1 := gives_of_out noSpec_holds mixedP 100 fun _ => ⟨by kernel_rfl, by kernel_rfl, by kernel_rfl⟩
theorem pat_8 : Gives Try.prog 34 #[.int .i64 8] (.string (patS 8)) 1 := gives_of_out noSpec_holds mixedP 100 fun _ => ⟨by kernel_rfl, by kernel_rfl, by kernel_rfl⟩
theorem pat_9 : Gives Try.prog 34 #[.int .i64 9] (.string (patS 9)) 1 := gives_of_out noSpec_holds mixedP 100 fun _ => ⟨by kernel_rfl, by kernel_rfl, by kernel_rfl⟩
theorem pat_10 : Gives Try.prog 34 #[.int .i64 10] (.string (patS 10)) 1 := gives_of_out noSpec_holds mixedP 100 fun _ => ⟨by kernel_rfl, by kernel_rfl, by kernel_rfl⟩
theorem pat_11 : Gives Try.prog 34 #[.int .i64 11] (.string (patS 11)) 1 := gives_of_out noSpec_holds mixedP 100 fun _ => ⟨by kernel_rfl, by kernel_rfl, by kernel_rfl⟩
theorem pat_12 : Gives Try.prog 34 #[.int .i64 12] (.string (patS 12)) 1 := gives_of_out noSpec_holds mixedP 100 fun _ => ⟨by kernel_rfl, by kernel_rfl, by kernel_rfl⟩
theorem pat_13 : Gives Try.prog 34 #[.int .i64 13] (.string (patS 13)) 1 := gives_of_out noSpec_holds mixedP 100 fun _ => ⟨by kernel_rfl, by kernel_rfl, by kernel_rfl⟩
theorem pat_14 : Gives Try.prog 34 #[.int .i64 14] (.string (patS 14)) 1 := gives_of_out noSpec_holds mixedP 100 fun _ => ⟨by kernel_rfl, by kernel_rfl, by kernel_rfl⟩
theorem pat_15 : Gives Try.prog 34 #[.int .i64 15] (.string (patS 15)) 1 := gives_of_out noSpec_holds mixedP 100 fun _ => ⟨by kernel_rfl, by kernel_rfl, by kernel_rfl⟩
theorem pat_16 : Gives Try.prog 34 #[.int .i64 16] (.string (patS 16)) 1 := gives_of_out noSpec_holds mixedP 100 fun _ => ⟨by kernel_rfl, by kernel_rfl, by kernel_rfl⟩
theorem pat_17 : Gives Try.prog 34 #[.int .i64 17] (.string (patS 17)) 1 := gives_of_out noSpec_holds mixedP 100 fun _ => ⟨by kernel_rfl, by kernel_rfl, by kernel_rfl⟩
theorem pat_18 : Gives Try.prog 34 #[.int .i64 18] (.string (patS 18)) 1 := gives_of_out noSpec_holds mixedP 100 fun _ => ⟨by kernel_rfl, by kernel_rfl, by kernel_rfl⟩
theorem pat_19 : Gives Try.prog 34 #[.int .i64 19] (.string (patS 19)) 1 := gives_of_out noSpec_holds mixedP 100 fun _ => ⟨by kernel_rfl, by kernel_rfl, by kernel_rfl⟩
theorem pat_20 : Gives Try.prog 34 #[.int .i64 20] (.string (patS 20)) 1 := gives_of_out noSpec_holds mixedP 100 fun _ => ⟨by kernel_rfl, by kernel_rfl, by kernel_rfl⟩
theorem pat_21 : Gives Try.prog 34 #[.int .i64 21] (.string (patS 21)) 1 := gives_of_out noSpec_holds mixedP 100 fun _ => ⟨by kernel_rfl, by kernel_rfl, by kernel_rfl⟩
theorem pat_22 : Gives Try.prog 34 #[.int .i64 22] (.string (patS 22)) 1 := gives_of_out noSpec_holds mixedP 100 fun _ => ⟨by kernel_rfl, by kernel_rfl, by kernel_rfl⟩
theorem pat_23 : Gives Try.prog 34 #[.int .i64 23] (.string (patS 23)) 1 := gives_of_out noSpec_holds mixedP 100 fun _ => ⟨by kernel_rfl, by kernel_rfl, by kernel_rfl⟩
theorem pat_24 : Gives Try.prog 34 #[.int .i64 24] (.string (patS 24)) 1 := gives_of_out noSpec_holds mixedP 100 fun _ => ⟨by kernel_rfl, by kernel_rfl, by kernel_rfl⟩
theorem pat_25 : Gives Try.prog 34 #[.int .i64 25] (.string (patS 25)) 1 := gives_of_out noSpec_holds mixedP 100 fun _ => ⟨by kernel_rfl, by kernel_rfl, by kernel_rfl⟩
theorem pat_26 : Gives Try.prog 34 #[.int .i64 26] (.string (patS 26)) 1 := gives_of_out noSpec_holds mixedP 100 fun _ => ⟨by kernel_rfl, by kernel_rfl, by kernel_rfl⟩
theorem pat_27 : Gives Try.prog 34 #[.int .i64 27] (.string (patS 27)) 1 := gives_of_out noSpec_holds mixedP 100 fun _ => ⟨by kernel_rfl, by kernel_rfl, by kernel_rfl⟩
theorem pat_28 : Gives Try.prog 34 #[.int .i64 28] (.string (patS 28)) 1 := gives_of_out noSpec_holds mixedP 100 fun _ => ⟨by kernel_rfl, by kernel_rfl, by kernel_rfl⟩
theorem pat_29 : Gives Try.prog 34 #[.int .i64 29] (.string (patS 29)) 1 := gives_of_out noSpec_holds mixedP 100 fun _ => ⟨by kernel_rfl, by kernel_rfl, by kernel_rfl⟩
theorem pat_30 : Gives Try.prog 34 #[.int .i64 30] (.string (patS 30)) 1 := gives_of_out noSpec_holds mixedP 100 fun _ => ⟨by kernel_rfl, by kernel_rfl, by kernel_rfl⟩
theorem pat_31 : Gives Try.prog 34 #[.int .i64 31] (.string (patS 31)) 1 := gives_of_out noSpec_holds mixedP 100 fun _ => ⟨by kernel_rfl, by kernel_rfl, by kernel_rfl⟩
theorem pat_32 : Gives Try.prog 34 #[.int .i64 32] (.string (patS 32)) 1 := gives_of_out noSpec_holds mixedP 100 fun _ => ⟨by kernel_rfl, by kernel_rfl, by kernel_rfl⟩
theorem pat_33 : Gives Try.prog 34 #[.int .i64 33] (.string (patS 33)) 1 := gives_of_out noSpec_holds mixedP 100 fun _ => ⟨by kernel_rfl, by kernel_rfl, by kernel_rfl⟩
theorem pat_34 : Gives Try.prog 34 #[.int .i64 34] (.string (patS 34)) 1 := gives_of_out noSpec_holds mixedP 100 fun _ => ⟨by kernel_rfl, by kernel_rfl, by kernel_rfl⟩
theorem pat_35 : Gives Try.prog 34 #[.int .i64 35] (.string (patS 35)) 1 := gives_of_out noSpec_holds mixedP 100 fun _ => ⟨by kernel_rfl, by kernel_rfl, by kernel_rfl⟩
theorem pat_36 : Gives Try.prog 34 #[.int .i64 36] (.string (patS 36)) 1 := gives_of_out noSpec_holds mixedP 100 fun _ => ⟨by kernel_rfl, by kernel_rfl, by kernel_rfl⟩
theorem pat_37 : Gives Try.prog 34 #[.int .i64 37] (.string (patS 37)) 1 := gives_of_out noSpec_holds mixedP 100 fun _ => ⟨by kernel_rfl, by kernel_rfl, by kernel_rfl⟩
theorem pat_38 : Gives Try.prog 34 #[.int .i64 38] (.string (patS 38)) 1 := gives_of_out noSpec_holds mixedP 100 fun _ => ⟨by kernel_rfl, by kernel_rfl, by kernel_rfl⟩
theorem pat_39 : Gives Try.prog 34 #[.int .i64 39] (.string (patS 39)) 1 := gives_of_out noSpec_holds mixedP 100 fun _ => ⟨by kernel_rfl, by kernel_rfl, by kernel_rfl⟩
theorem pat_40 : Gives Try.prog 34 #[.int .i64 40] (.string (patS 40)) 1 := gives_of_out noSpec_holds mixedP 100 fun _ => ⟨by kernel_rfl, by kernel_rfl, by kernel_rfl⟩
theorem pat_41 : Gives Try.prog 34 #[.int .i64 41] (.string (patS 41)) 1 := gives_of_out noSpec_holds mixedP 100 fun _ => ⟨by kernel_rfl, by kernel_rfl, by kernel_rfl⟩
theorem pat_42 : Gives Try.prog 34 #[.int .i64 42] (.string (patS 42)) 1 := gives_of_out noSpec_holds mixedP 100 fun _ => ⟨by kernel_rfl, by kernel_rfl, by kernel_rfl⟩
theorem pat_43 : Gives Try.prog 34 #[.int .i64 43] (.string (patS 43)) 1 := gives_of_out noSpec_holds mixedP 100 fun _ => ⟨by kernel_rfl, by kernel_rfl, by kernel_rfl⟩
theorem pat_44 : Gives Try.prog 34 #[.int .i64 44] (.string (patS 44)) 1 := gives_of_out noSpec_holds mixedP 100 fun _ => ⟨by kernel_rfl, by kernel_rfl, by kernel_rfl⟩
theorem pat_45 : Gives Try.prog 34 #[.int .i64 45] (.string (patS 45)) 1 := gives_of_out noSpec_holds mixedP 100 fun _ => ⟨by kernel_rfl, by kernel_rfl, by kernel_rfl⟩
theorem pat_46 : Gives Try.prog 34 #[.int .i64 46] (.string (patS 46)) 1 := gives_of_out noSpec_holds mixedP 100 fun _ => ⟨by kernel_rfl, by kernel_rfl, by kernel_rfl⟩
theorem pat_47 : Gives Try.prog 34 #[.int .i64 47] (.string (patS 47)) 1 := gives_of_out noSpec_holds mixedP 100 fun _ => ⟨by kernel_rfl, by kernel_rfl, by kernel_rfl⟩

theorem pat_low (op : Int) (h : op < 1) : Gives Try.prog 34 #[.int .i64 op] (.string (patS 0)) 0 :=
  gives_of_asked (withBoth_holds (fs := []) (cl := []) (fn := 34) (ts := [5]) (rl := [.bool true]) (by simp)) mixedP 100 (qs := [(.val (.bool (decide (op < 1))), .val (.bool true))]) (by simp; omega) fun _ => ⟨by kernel_rfl, by kernel_rfl, by kernel_rfl⟩
theorem pat_high (op : Int) (h : 47 < op) : Gives Try.prog 34 #[.int .i64 op] (.string (patS 0)) 0 :=
  gives_of_asked (withBoth_holds (fs := []) (cl := []) (fn := 34) (ts := [5, 8]) (rl := [.bool false, .bool true]) (by simp)) mixedP 100 (qs := [(.val (.bool (decide (op > 47))), .val (.bool true)), (.val (.bool (decide (op < 1))), .val (.bool false))]) (by simp; omega) fun _ => ⟨by kernel_rfl, by kernel_rfl, by kernel_rfl⟩

/-- The pattern's number: 0 where there is none. -/
def patNo (op : Int) : Nat := if 1 ≤ op ∧ op ≤ 47 then op.toNat else 0

theorem pat_in : ∀ k : Nat, 1 ≤ k → k < 48 → Gives Try.prog 34 #[.int .i64 (k : Nat)] (.string (patS k)) 1
  | 0, h, _ => absurd h (by decide)
  | 1, _, _ => pat_1
  | 2, _, _ => pat_2
  | 3, _, _ => pat_3
  | 4, _, _ => pat_4
  | 5, _, _ => pat_5
  | 6, _, _ => pat_6
  | 7, _, _ => pat_7
  | 8, _, _ => pat_8
  | 9, _, _ => pat_9
  | 10, _, _ => pat_10
  | 11, _, _ => pat_11
  | 12, _, _ => pat_12
  | 13, _, _ => pat_13
  | 14, _, _ => pat_14
  | 15, _, _ => pat_15
  | 16, _, _ => pat_16
  | 17, _, _ => pat_17
  | 18, _, _ => pat_18
  | 19, _, _ => pat_19
  | 20, _, _ => pat_20
  | 21, _, _ => pat_21
  | 22, _, _ => pat_22
  | 23, _, _ => pat_23
  | 24, _, _ => pat_24
  | 25, _, _ => pat_25
  | 26, _, _ => pat_26
  | 27, _, _ => pat_27
  | 28, _, _ => pat_28
  | 29, _, _ => pat_29
  | 30, _, _ => pat_30
  | 31, _, _ => pat_31
  | 32, _, _ => pat_32
  | 33, _, _ => pat_33
  | 34, _, _ => pat_34
  | 35, _, _ => pat_35
  | 36, _, _ => pat_36
  | 37, _, _ => pat_37
  | 38, _, _ => pat_38
  | 39, _, _ => pat_39
  | 40, _, _ => pat_40
  | 41, _, _ => pat_41
  | 42, _, _ => pat_42
  | 43, _, _ => pat_43
  | 44, _, _ => pat_44
  | 45, _, _ => pat_45
  | 46, _, _ => pat_46
  | 47, _, _ => pat_47
  | k + 48, _, h => absurd h (by omega)

theorem pat_gives (op : Int) : ∃ n, Gives Try.prog 34 #[.int .i64 op] (.string (patS (patNo op))) n := by
  unfold patNo
  by_cases h1 : op < 1
  · rw [if_neg (by omega)]; exact ⟨_, pat_low op h1⟩
  by_cases h2 : 47 < op
  · rw [if_neg (by omega)]; exact ⟨_, pat_high op h2⟩
  rw [if_pos (by omega)]
  obtain ⟨k, rfl⟩ := Int.eq_ofNat_of_zero_le (show 0 ≤ op by omega)
  exact ⟨_, pat_in k (by omega) (by omega)⟩

end Go.Proofs.Ytjcebkkmpgafkaa
