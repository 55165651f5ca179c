/-
  The plain law of chapter 14, first part: which instructions fit.
-/
import Derived.Test.YtjcebkkmpgafkaaDecode
import Derived.Test.YtjcebkkmpgafkaaRefD
namespace Go.Proofs.Ytjcebkkmpgafkaa
open Go Go.RowKit Ev

/-- A field's values: only nought, or from lo to hi by steps. -/
def chk : Option (Int × Int × Int) → Int → Bool
  | none, v => v == 0
  | some (lo, hi, st), v => decide (lo ≤ v) && (decide (v ≤ hi) && v.tmod st == 0)
def fd (f : Fld) : Option (Int × Int × Int) := if f.step = 0 then none else some (f.lo, f.hi, f.step)
theorem inB_chk (f : Fld) (v : Int) : inB f v = chk (fd f) v := by
  unfold inB fd
  split <;> rfl
theorem bet_chk (v lo hi : Int) : betB v lo hi = chk (some (lo, hi, 1)) v := by simp [betB, chk]
def regD (op letter : Int) : Option (Int × Int × Int) := if hasB op letter then some (0, topV op letter, 1) else none
theorem reg_chk (op letter v : Int) : regB op letter v = chk (regD op letter) v := by
  unfold regB regD
  split
  · exact bet_chk _ _ _
  · rfl
def immD (op : Int) : Option (Int × Int × Int) :=
  if op = 1 ∨ op = 2 then some (0, 65535, 1) else
  if op = 12 ∨ op = 13 then some (0, 4095, 1) else
  if op = 14 then some (1, 63, 1) else
  if op = 15 then some (0, 63, 1) else
  if op = 18 then some (-33554432, 33554431, 1) else
  if op = 19 ∨ op = 20 ∨ op = 21 then some (-262144, 262143, 1) else
  if op = 22 ∨ op = 23 then some (0, 32760, 8) else
  if op = 33 then some (0, 30, 1) else none
theorem imm_chk (op v : Int) : immB op v = chk (immD op) v := by
  unfold immB immD
  (repeat' split) <;> first | exact bet_chk _ _ _ | rfl | (simp only [betB, chk, Bool.and_assoc])
def condD (op : Int) : Option (Int × Int × Int) := if op = 1 ∨ op = 2 then some (0, 3, 1) else if op = 17 ∨ op = 19 then some (0, 13, 1) else none
theorem cond_chk (op v : Int) : condB op v = chk (condD op) v := by
  unfold condB condD
  (repeat' split) <;> first | exact bet_chk _ _ _ | rfl

def rowD (k : Nat) : Bool := decide (fd (rowOf k).f0 = regD k 100) && (decide (fd (rowOf k).f1 = regD k 110) && (decide (fd (rowOf k).f2 = regD k 109) && (decide (fd (rowOf k).f4 = condD k) && decide (fd (rowOf k).f3 = (if k = 14 then some (0, 63, 1) else immD k)))))
theorem tabDB : ∀ k : Nat, k < 48 → 1 ≤ k → rowD k = true := by decide +kernel
theorem tabD (k : Nat) (h : k < 48) (h1 : 1 ≤ k) : fd (rowOf k).f0 = regD k 100 ∧ fd (rowOf k).f1 = regD k 110 ∧ fd (rowOf k).f2 = regD k 109 ∧ fd (rowOf k).f4 = condD k ∧ fd (rowOf k).f3 = (if k = 14 then some (0, 63, 1) else immD k) := by
  have := tabDB k h h1
  simp only [rowD, Bool.and_eq_true, decide_eq_true_eq] at this
  exact this

theorem fits_eq (i : I) : fitsI i = rfitsB i := by
  unfold fitsI rfitsB
  by_cases h1 : 1 ≤ i.op
  · by_cases h2 : i.op ≤ 47
    · rw [decide_eq_true h1, decide_eq_true h2, Bool.true_and, Bool.true_and, Bool.true_and, Bool.true_and]
      obtain ⟨op, rd, rn, rm, imm, cond⟩ := i
      simp only at h1 h2 ⊢
      obtain ⟨k, rfl⟩ := Int.eq_ofNat_of_zero_le (show 0 ≤ op by omega)
      have hk1 : 1 ≤ k := by omega
      have hk : k < 48 := by omega
      obtain ⟨t0, t1, t2, t4, t3⟩ := tabD k hk hk1
      have hrow : rowAt (k : Int) = rowOf k := by unfold rowAt; rw [if_pos ⟨h1, h2⟩, Int.toNat_natCast]
      rw [hrow]
      unfold fitsB
      simp only [inB_chk, reg_chk, imm_chk, cond_chk, t0, t1, t2, t3, t4]
      by_cases h14 : k = 14
      · subst h14
        rw [if_pos rfl, if_pos (show ((14 : Nat) : Int) = 14 from rfl), if_neg (show ¬ (((14 : Nat) : Int) = 28 ∨ ((14 : Nat) : Int) = 29) by decide)]
        have e : immD ((14 : Nat) : Int) = some (1, 63, 1) := by decide
        rw [e]
        generalize chk (regD _ 100) rd = a
        generalize chk (regD _ 110) rn = b
        generalize chk (regD _ 109) rm = c
        generalize chk (condD _) cond = d
        cases a <;> cases b <;> cases c <;> cases d <;> simp [chk]
        rw [Bool.eq_iff_iff]
        simp
        omega
      · rw [if_neg h14, if_neg (show ¬ ((k : Nat) : Int) = 14 by omega)]
    · rw [decide_eq_false h2]
      simp
  · rw [decide_eq_false h1]
    simp

end Go.Proofs.Ytjcebkkmpgafkaa
