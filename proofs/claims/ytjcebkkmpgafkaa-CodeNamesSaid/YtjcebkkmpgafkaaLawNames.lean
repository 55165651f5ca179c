/-
  CodeNames: the operations' and the conditions' numbers.
-/
import Derived.Test.YtjcebkkmpgafkaaLawA
namespace Go.Proofs.Ytjcebkkmpgafkaa
open Go Go.RowKit Ev

def rowOfInts (n : Nat) (d : Int) : Array Value := ((List.range n).map fun i : Nat => Value.int .i64 ((i : Int) + d)).toArray

theorem rowOfInts_at (w : World) (n : Nat) (d : Int) (t : TypeId) (i : Nat) (h : i < n) : (w.alloc (.cells (rowOfInts n d) t)).cell? ⟨w.heap.size, i, none⟩ = some (.int .i64 ((i : Int) + d)) := by
  have : (w.alloc (.cells (rowOfInts n d) t)).cell? ⟨w.heap.size, i, none⟩ = (rowOfInts n d)[i]? := by
    show (match (w.heap.push (Obj.cells (rowOfInts n d) t))[w.heap.size]? with | some (.cells c _ _) => if (none : Option Nat).isSome then none else c[i]? | _ => none) = _
    simp
  rw [this]
  simp [rowOfInts, h]

set_option maxRecDepth 10000 in
set_option maxHeartbeats 1000000 in
theorem names_any (w : World) : Calls Try.prog 4 #[] w fun e w' => e = .returned (.bool true) ∧ Below w.heap.size w w' := by
  have HA := Lib.hid awake_any
  go_enter Try.func4, Try.ntmps4
  go_wp2_with fail
  have hc := rowOfInts_at w 47 1 3
  obtain ⟨W1, hW1⟩ : ∃ W1, W1 = w.alloc (.cells (rowOfInts 47 1) 3) := ⟨_, rfl⟩
  show Code.wp _ _ _ _ (w.alloc (.cells (rowOfInts 47 1) 3))
  rw [← hW1] at hc ⊢
  have hb1 : Below w.heap.size w W1 := by rw [hW1]; exact (Below.refl _ _).alloc (Nat.le_refl _) _
  have HC := Lib.hid hc
  have HB := Lib.hid hb1
  clear hc hb1 hW1
  go_loop [2] (fun i => ∃ k : Nat, k ≤ 47 ∧ i = .int .i64 (k : Int)) (fun i => 47 - (intOf i).toNat)
  case atStart => exact ⟨0, by omega, by go_num⟩
  case round =>
    obtain ⟨k, hk, rfl⟩ := hrel
    by_cases hk2 : k < 47
    · have hcell := HC.out k hk2
      have t1 : (((k : Int) + 1) != ((k : Int) + 1)) = false := by simp
      go_wp2_with fail
      go_round
      case rel => exact ⟨k + 1, by omega, by go_num⟩
      case measure => simp [intOf]; omega
    · have : k = 47 := by omega
      subst this
      go_wp2_with fail
      have hc2 := rowOfInts_at W1 14 0 3
      obtain ⟨W2, hW2⟩ : ∃ W2, W2 = W1.alloc (.cells (rowOfInts 14 0) 3) := ⟨_, rfl⟩
      show Code.wp _ _ _ _ (W1.alloc (.cells (rowOfInts 14 0) 3))
      rw [← hW2] at hc2 ⊢
      have hb2 : Below w.heap.size w W2 := by rw [hW2]; exact HB.out.alloc HB.out.size _
      have HC2 := Lib.hid hc2
      have HB2 := Lib.hid hb2
      clear hc2 hb2 hW2
      go_loop [4] (fun i => ∃ k : Nat, k ≤ 14 ∧ i = .int .i64 (k : Int)) (fun i => 14 - (intOf i).toNat)
      case atStart => exact ⟨0, by omega, by go_num⟩
      case round =>
        obtain ⟨k, hk, rfl⟩ := hrel
        by_cases hk3 : k < 14
        · have hcell := HC2.out k hk3
          simp only [Int.add_zero] at hcell
          have t1 : ((k : Int) != (k : Int)) = false := by simp
          go_wp2_with fail
          go_round
          case rel => exact ⟨k + 1, by omega, by go_num⟩
          case measure => simp [intOf]; omega
        · have : k = 14 := by omega
          subst this
          go_wp2_with fail
          refine (HA.out _).mono ?_
          rintro e w3 ⟨rfl, hb3⟩
          have HB3 := Lib.hid (below_chain HB2.out hb3 HB2.out.size)
          clear hb3
          go_wp2_with fail
          go_returns
          exact ⟨rfl, HB3.out⟩

end Go.Proofs.Ytjcebkkmpgafkaa
