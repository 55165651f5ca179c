/-
  What is encoded is decoded to itself.
-/
import Derived.Handy
import Derived.Lib.Hide
import Derived.WalkSpells
import Derived.WalkLawsBesides
import Derived.Deep.RegionWith
import Derived.Deep.QuietTactic
import Derived.BigQuiet
import Derived.Test.YtgaejhhipnpopaaCdB
namespace Go.Proofs.Ytgaejhhipnpopaa.Cd
open Go Ev Go.RowKit
set_option linter.unusedVariables false
set_option linter.unusedSimpArgs false

/-- The 32 signs of an operation's pattern. -/
def patL : Nat → List Nat
  | 1 => [49, 49, 48, 49, 48, 48, 49, 48, 49, 99, 99, 105, 105, 105, 105, 105, 105, 105, 105, 105, 105, 105, 105, 105, 105, 105, 105, 100, 100, 100, 100, 100]
  | 2 => [49, 49, 49, 49, 48, 48, 49, 48, 49, 99, 99, 105, 105, 105, 105, 105, 105, 105, 105, 105, 105, 105, 105, 105, 105, 105, 105, 100, 100, 100, 100, 100]
  | 3 => [49, 48, 48, 48, 49, 48, 49, 49, 48, 48, 48, 109, 109, 109, 109, 109, 48, 48, 48, 48, 48, 48, 110, 110, 110, 110, 110, 100, 100, 100, 100, 100]
  | 4 => [49, 49, 48, 48, 49, 48, 49, 49, 48, 48, 48, 109, 109, 109, 109, 109, 48, 48, 48, 48, 48, 48, 110, 110, 110, 110, 110, 100, 100, 100, 100, 100]
  | 5 => [49, 48, 48, 48, 49, 48, 49, 48, 48, 48, 48, 109, 109, 109, 109, 109, 48, 48, 48, 48, 48, 48, 110, 110, 110, 110, 110, 100, 100, 100, 100, 100]
  | 6 => [49, 48, 49, 48, 49, 48, 49, 48, 48, 48, 48, 109, 109, 109, 109, 109, 48, 48, 48, 48, 48, 48, 110, 110, 110, 110, 110, 100, 100, 100, 100, 100]
  | 7 => [49, 49, 48, 48, 49, 48, 49, 48, 48, 48, 48, 109, 109, 109, 109, 109, 48, 48, 48, 48, 48, 48, 110, 110, 110, 110, 110, 100, 100, 100, 100, 100]
  | 8 => [49, 48, 49, 48, 49, 48, 49, 48, 48, 48, 49, 109, 109, 109, 109, 109, 48, 48, 48, 48, 48, 48, 110, 110, 110, 110, 110, 100, 100, 100, 100, 100]
  | 9 => [49, 48, 48, 49, 49, 48, 49, 49, 48, 48, 48, 109, 109, 109, 109, 109, 48, 49, 49, 49, 49, 49, 110, 110, 110, 110, 110, 100, 100, 100, 100, 100]
  | 10 => [49, 48, 48, 49, 49, 48, 49, 48, 49, 49, 48, 109, 109, 109, 109, 109, 48, 48, 49, 48, 48, 48, 110, 110, 110, 110, 110, 100, 100, 100, 100, 100]
  | 11 => [49, 48, 48, 49, 49, 48, 49, 48, 49, 49, 48, 109, 109, 109, 109, 109, 48, 48, 49, 48, 48, 49, 110, 110, 110, 110, 110, 100, 100, 100, 100, 100]
  | 12 => [49, 48, 48, 49, 48, 48, 48, 49, 48, 48, 105, 105, 105, 105, 105, 105, 105, 105, 105, 105, 105, 105, 110, 110, 110, 110, 110, 100, 100, 100, 100, 100]
  | 13 => [49, 49, 48, 49, 48, 48, 48, 49, 48, 48, 105, 105, 105, 105, 105, 105, 105, 105, 105, 105, 105, 105, 110, 110, 110, 110, 110, 100, 100, 100, 100, 100]
  | 14 => [49, 49, 48, 49, 48, 48, 49, 49, 48, 49, 114, 114, 114, 114, 114, 114, 115, 115, 115, 115, 115, 115, 110, 110, 110, 110, 110, 100, 100, 100, 100, 100]
  | 15 => [49, 49, 48, 49, 48, 48, 49, 49, 48, 49, 105, 105, 105, 105, 105, 105, 49, 49, 49, 49, 49, 49, 110, 110, 110, 110, 110, 100, 100, 100, 100, 100]
  | 16 => [49, 49, 49, 48, 49, 48, 49, 49, 48, 48, 48, 109, 109, 109, 109, 109, 48, 48, 48, 48, 48, 48, 110, 110, 110, 110, 110, 49, 49, 49, 49, 49]
  | 17 => [49, 48, 48, 49, 49, 48, 49, 48, 49, 48, 48, 49, 49, 49, 49, 49, 107, 107, 107, 107, 48, 49, 49, 49, 49, 49, 49, 100, 100, 100, 100, 100]
  | 18 => [48, 48, 48, 49, 48, 49, 105, 105, 105, 105, 105, 105, 105, 105, 105, 105, 105, 105, 105, 105, 105, 105, 105, 105, 105, 105, 105, 105, 105, 105, 105, 105]
  | 19 => [48, 49, 48, 49, 48, 49, 48, 48, 105, 105, 105, 105, 105, 105, 105, 105, 105, 105, 105, 105, 105, 105, 105, 105, 105, 105, 105, 48, 99, 99, 99, 99]
  | 20 => [49, 48, 49, 49, 48, 49, 48, 48, 105, 105, 105, 105, 105, 105, 105, 105, 105, 105, 105, 105, 105, 105, 105, 105, 105, 105, 105, 100, 100, 100, 100, 100]
  | 21 => [49, 48, 49, 49, 48, 49, 48, 49, 105, 105, 105, 105, 105, 105, 105, 105, 105, 105, 105, 105, 105, 105, 105, 105, 105, 105, 105, 100, 100, 100, 100, 100]
  | 22 => [49, 49, 49, 49, 49, 48, 48, 49, 48, 49, 105, 105, 105, 105, 105, 105, 105, 105, 105, 105, 105, 105, 110, 110, 110, 110, 110, 100, 100, 100, 100, 100]
  | 23 => [49, 49, 49, 49, 49, 48, 48, 49, 48, 48, 105, 105, 105, 105, 105, 105, 105, 105, 105, 105, 105, 105, 110, 110, 110, 110, 110, 100, 100, 100, 100, 100]
  | 24 => [49, 49, 48, 48, 49, 48, 48, 48, 49, 49, 48, 49, 49, 49, 49, 49, 49, 49, 49, 49, 49, 49, 110, 110, 110, 110, 110, 100, 100, 100, 100, 100]
  | 25 => [49, 49, 48, 48, 49, 48, 48, 48, 49, 48, 48, 49, 49, 49, 49, 49, 49, 49, 49, 49, 49, 49, 110, 110, 110, 110, 110, 100, 100, 100, 100, 100]
  | 26 => [49, 49, 48, 48, 49, 48, 48, 48, 48, 49, 48, 49, 49, 49, 49, 49, 48, 49, 49, 49, 49, 49, 110, 110, 110, 110, 110, 100, 100, 100, 100, 100]
  | 27 => [49, 49, 48, 48, 49, 48, 48, 48, 48, 49, 48, 49, 49, 49, 49, 49, 49, 49, 49, 49, 49, 49, 110, 110, 110, 110, 110, 100, 100, 100, 100, 100]
  | 28 => [49, 49, 48, 48, 49, 48, 48, 48, 48, 48, 48, 109, 109, 109, 109, 109, 48, 49, 49, 49, 49, 49, 110, 110, 110, 110, 110, 100, 100, 100, 100, 100]
  | 29 => [49, 49, 48, 48, 49, 48, 48, 48, 48, 48, 48, 109, 109, 109, 109, 109, 49, 49, 49, 49, 49, 49, 110, 110, 110, 110, 110, 100, 100, 100, 100, 100]
  | 30 => [49, 49, 48, 49, 48, 49, 48, 49, 48, 48, 48, 48, 48, 48, 49, 49, 48, 48, 49, 49, 49, 49, 48, 49, 49, 48, 49, 49, 49, 49, 49, 49]
  | 31 => [49, 49, 48, 49, 48, 49, 48, 49, 48, 48, 48, 48, 48, 48, 49, 49, 48, 48, 49, 49, 49, 49, 49, 49, 49, 48, 49, 49, 49, 49, 49, 49]
  | 32 => [49, 49, 48, 49, 48, 49, 48, 49, 48, 48, 48, 48, 48, 48, 49, 49, 48, 48, 49, 48, 48, 48, 48, 48, 48, 48, 48, 49, 49, 49, 49, 49]
  | 33 => [49, 49, 48, 49, 48, 49, 48, 48, 48, 48, 48, 105, 105, 105, 105, 105, 105, 105, 105, 105, 105, 105, 105, 105, 105, 105, 105, 48, 48, 48, 48, 49]
  | 34 => [49, 49, 48, 49, 48, 49, 48, 48, 48, 49, 48, 48, 48, 48, 48, 48, 48, 48, 48, 48, 48, 48, 48, 48, 48, 48, 48, 48, 48, 48, 48, 48]
  | 35 => [49, 49, 49, 49, 49, 48, 48, 48, 49, 48, 49, 49, 49, 49, 49, 49, 49, 49, 48, 48, 48, 48, 110, 110, 110, 110, 110, 100, 100, 100, 100, 100]
  | 36 => [49, 49, 48, 48, 49, 48, 48, 48, 49, 48, 49, 109, 109, 109, 109, 109, 48, 49, 49, 49, 49, 49, 110, 110, 110, 110, 110, 100, 100, 100, 100, 100]
  | 37 => [49, 49, 48, 48, 49, 48, 48, 48, 49, 49, 49, 109, 109, 109, 109, 109, 48, 49, 49, 49, 49, 49, 110, 110, 110, 110, 110, 100, 100, 100, 100, 100]
  | 38 => [49, 49, 48, 48, 49, 48, 48, 48, 49, 48, 49, 109, 109, 109, 109, 109, 49, 49, 49, 49, 49, 49, 110, 110, 110, 110, 110, 100, 100, 100, 100, 100]
  | 39 => [49, 49, 48, 48, 49, 48, 48, 48, 49, 49, 49, 109, 109, 109, 109, 109, 49, 49, 49, 49, 49, 49, 110, 110, 110, 110, 110, 100, 100, 100, 100, 100]
  | 40 => [49, 49, 49, 49, 49, 48, 48, 48, 48, 48, 49, 109, 109, 109, 109, 109, 49, 48, 48, 48, 48, 48, 110, 110, 110, 110, 110, 100, 100, 100, 100, 100]
  | 41 => [49, 49, 49, 49, 49, 48, 48, 48, 49, 48, 49, 109, 109, 109, 109, 109, 49, 48, 48, 48, 48, 48, 110, 110, 110, 110, 110, 100, 100, 100, 100, 100]
  | 42 => [49, 49, 49, 49, 49, 48, 48, 48, 48, 49, 49, 109, 109, 109, 109, 109, 49, 48, 48, 48, 48, 48, 110, 110, 110, 110, 110, 100, 100, 100, 100, 100]
  | 43 => [49, 49, 49, 49, 49, 48, 48, 48, 49, 49, 49, 109, 109, 109, 109, 109, 49, 48, 48, 48, 48, 48, 110, 110, 110, 110, 110, 100, 100, 100, 100, 100]
  | 44 => [49, 49, 49, 49, 49, 48, 48, 48, 48, 48, 49, 109, 109, 109, 109, 109, 48, 48, 48, 48, 48, 48, 110, 110, 110, 110, 110, 100, 100, 100, 100, 100]
  | 45 => [49, 49, 49, 49, 49, 48, 48, 48, 49, 48, 49, 109, 109, 109, 109, 109, 48, 48, 48, 48, 48, 48, 110, 110, 110, 110, 110, 100, 100, 100, 100, 100]
  | 46 => [49, 49, 49, 49, 49, 48, 48, 48, 48, 49, 49, 109, 109, 109, 109, 109, 48, 48, 48, 48, 48, 48, 110, 110, 110, 110, 110, 100, 100, 100, 100, 100]
  | 47 => [49, 49, 49, 49, 49, 48, 48, 48, 49, 49, 49, 109, 109, 109, 109, 109, 48, 48, 48, 48, 48, 48, 110, 110, 110, 110, 110, 100, 100, 100, 100, 100]
  | _ => []

def patS (op : Nat) : ByteArray := ⟨((patL op).map (fun n : Nat => UInt8.ofNat n)).toArray⟩
/-- The pattern's number: 0 where there is none. -/
def patNo (op : Int) : Nat := if 1 ≤ op ∧ op ≤ 47 then op.toNat else 0

def betB (v lo hi : Int) : Bool := decide (lo ≤ v) && decide (v ≤ hi)
theorem ret_b {a b : Bool} (h : a = b) : Ending.returned (.bool a) = .returned (.bool b) := by rw [h]
theorem ret_i {k : IntKind} {a b : Int} (h : a = b) : Ending.returned (.int k a) = .returned (.int k b) := by rw [h]
/-- The highest register. -/
def topV (op : Int) (letter : Int) : Int :=
  if op = 12 ∨ op = 13 then 30 else
  if letter = 109 ∧ (op = 28 ∨ op = 29 ∨ (36 ≤ op ∧ op ≤ 39)) then 30 else
  if letter = 110 ∧ ((22 ≤ op ∧ op ≤ 29) ∨ 35 ≤ op) then 30 else
  if letter = 100 ∧ 40 ≤ op then 30 else 31
def immB (op v : Int) : Bool :=
  if op = 1 ∨ op = 2 then betB v 0 65535 else
  if op = 12 ∨ op = 13 then betB v 0 4095 else
  if op = 14 then betB v 1 63 else
  if op = 15 then betB v 0 63 else
  if op = 18 then betB v (-33554432) 33554431 else
  if op = 19 ∨ op = 20 ∨ op = 21 then betB v (-262144) 262143 else
  if op = 22 ∨ op = 23 then betB v 0 32760 && (v.tmod 8 == 0) else
  if op = 33 then betB v 0 30 else v == 0
def condB (op v : Int) : Bool :=
  if op = 1 ∨ op = 2 then betB v 0 3 else if op = 17 ∨ op = 19 then betB v 0 13 else v == 0
/-- Is a letter among the signs? -/
def hasB (op letter : Int) : Bool := (patL (patNo op)).any fun x => (x : Int) == letter
theorem patS_size (k : Nat) : (patS k).size = (patL k).length := by
  show ((patL k).map _).toArray.size = _
  simp
theorem patL_small : ∀ k, k < 48 → ∀ x ∈ patL k, x < 256 := by decide +kernel
theorem patNo_lt (op : Int) : patNo op < 48 := by unfold patNo; split <;> omega
theorem patS_at (k j : Nat) (hk : k < 48) (h : j < (patS k).size) (h' : j < (patL k).length) : ((patS k)[j]).toNat = (patL k)[j] := by
  have hx := patL_small k hk (patL k)[j] (List.getElem_mem _)
  have e : (patS k)[j] = UInt8.ofNat (patL k)[j] := by
    show (((patL k).map fun n : Nat => UInt8.ofNat n).toArray)[j]'(by simpa using h') = _
    simp
  rw [e]
  simp
  omega
theorem any_take_succ (l : List Nat) (p : Nat → Bool) (j : Nat) (h : j < l.length) : (l.take (j + 1)).any p = ((l.take j).any p || p l[j]) := by
  rw [List.take_succ_eq_append_getElem h, List.any_append]
  simp

def regB (op letter v : Int) : Bool := if hasB op letter then betB v 0 (topV op letter) else v == 0
def rfitsB (i : I) : Bool :=
  decide (1 ≤ i.op) && (decide (i.op ≤ 47) && (regB i.op 100 i.rd && (regB i.op 110 i.rn && (regB i.op 109 i.rm && (immB i.op i.imm && (condB i.op i.cond &&
    (if i.op = 28 ∨ i.op = 29 then i.rm != i.rd && i.rm != i.rn else true)))))))
/-- What value tells of a letter. -/
def valV (i : I) (letter : Nat) : Int :=
  if letter = 100 then i.rd else if letter = 110 then i.rn else if letter = 109 then i.rm else if letter = 99 then i.cond else
  if letter = 107 then (if i.cond.tmod 2 = 0 then IntKind.i64.wrap (i.cond + 1) else IntKind.i64.wrap (i.cond - 1)) else
  if letter = 114 then IntKind.i64.wrap (64 - i.imm) else if letter = 115 then IntKind.i64.wrap (63 - i.imm) else
  if i.op = 22 ∨ i.op = 23 then IntKind.i64.wrap (i.imm.tdiv 8) else i.imm
def isLetter (l : Nat) : Bool := [100, 110, 109, 99, 107, 114, 115, 105].contains l

/-- A letter's number in the first k signs, and how many bits it has. -/
def rd (l : List Nat) (w letter : Nat) : Nat → Nat × Nat
  | 0 => (0, 0)
  | k + 1 => if l.getD k 0 = letter then ((rd l w letter k).1 * 2 + w / 2 ^ (31 - k) % 2, (rd l w letter k).2 + 1) else rd l w letter k
theorem rd_lt (l : List Nat) (w letter : Nat) : ∀ k, (rd l w letter k).1 < 2 ^ k ∧ (rd l w letter k).2 ≤ k
  | 0 => by simp [rd]
  | k + 1 => by
    have := rd_lt l w letter k
    have h2 : w / 2 ^ (31 - k) % 2 < 2 := Nat.mod_lt _ (by decide)
    have h3 : 2 ^ (k + 1) = 2 * 2 ^ k := by rw [Nat.pow_succ]; omega
    simp only [rd]
    split
    · simp only; omega
    · omega
theorem one_bit (x : Nat) (h : x < 4294967296) : bits .and .u32 (x : Int) 1 = ((x % 2 : Nat) : Int) := by
  have := mask32 x 1 h (by decide)
  simpa using this
theorem shr_cast (w : Nat) (j : Nat) : ((w : Int) / 2 ^ j) = ((w / 2 ^ j : Nat) : Int) := by simp

/-- How many of the d signs behind the place k are c. -/
def bh (l : List Nat) (c k : Nat) : Nat → Nat
  | 0 => 0
  | d + 1 => bh l c k d + if l.getD (k + 1 + d) 0 = c then 1 else 0
theorem bh_le (l : List Nat) (c k : Nat) : ∀ d, bh l c k d ≤ d
  | 0 => Nat.le_refl _
  | d + 1 => by have := bh_le l c k d; simp only [bh]; split <;> omega
/-- The bit of the place k. -/
def bitV (i : I) (l : List Nat) (k : Nat) : Nat :=
  if l.getD k 0 = 49 then 1 else if 57 < l.getD k 0 then ((valV i (l.getD k 0)) % 18446744073709551616).toNat / 2 ^ bh l (l.getD k 0) k (31 - k) % 2 else 0
theorem bitV_lt (i : I) (l : List Nat) (k : Nat) : bitV i l k < 2 := by
  unfold bitV; split
  · decide
  · split
    · exact Nat.mod_lt _ (by decide)
    · decide
/-- The lowest m bits of the word. -/
def wdT (i : I) (l : List Nat) : Nat → Nat
  | 0 => 0
  | m + 1 => wdT i l m ||| bitV i l (31 - m) * 2 ^ m
theorem wdT_lt (i : I) (l : List Nat) : ∀ m, wdT i l m < 2 ^ m
  | 0 => by simp [wdT]
  | m + 1 => by
    have h1 := wdT_lt i l m
    have h2 := bitV_lt i l (31 - m)
    simp only [wdT]
    refine Nat.or_lt_two_pow (Nat.lt_trans h1 (Nat.pow_lt_pow_right (by decide) (by omega))) ?_
    rw [Nat.pow_succ]
    have : bitV i l (31 - m) ≤ 1 := by omega
    calc bitV i l (31 - m) * 2 ^ m ≤ 1 * 2 ^ m := Nat.mul_le_mul_right _ this
      _ < 2 ^ m * 2 := by have := Nat.two_pow_pos m; omega
theorem or_one (wm m : Nat) (hw : wm < 4294967296) (hm : m ≤ 31) : Value.int .u32 (bits .or .u32 (wm : Int) ((2 : Int) ^ m % 4294967296)) = .int .u32 ((wm ||| 1 * 2 ^ m : Nat) : Int) := by
  have h1 : 2 ^ m < 4294967296 := pow_lt32 m (by omega)
  have h2 : ((2 : Int) ^ m % 4294967296) = ((2 ^ m : Nat) : Int) := by
    have h3 : ((2 : Int) ^ m) = ((2 ^ m : Nat) : Int) := by simp
    rw [h3]; exact Int.emod_eq_of_lt (Int.natCast_nonneg _) (by omega)
  rw [h2, or32 wm _ hw h1, Nat.one_mul]
theorem or_zero (wm m : Nat) (hw : wm < 4294967296) : Value.int .u32 (bits .or .u32 (wm : Int) 0) = .int .u32 ((wm ||| 0 * 2 ^ m : Nat) : Int) := by
  have := or32 wm 0 hw (by decide)
  simp only [Int.natCast_zero] at this
  rw [this, Nat.zero_mul]
theorem or_bit (wm y m : Nat) (hw : wm < 4294967296) (hm : m ≤ 31) (hy : y < 2) : Value.int .u32 (bits .or .u32 (wm : Int) ((y : Int) * 2 ^ m % 4294967296)) = .int .u32 ((wm ||| y * 2 ^ m : Nat) : Int) := by
  rcases (show y = 0 ∨ y = 1 by omega) with rfl | rfl
  · simpa using or_zero wm m hw
  · simpa using or_one wm m hw hm
theorem or_shr (wm : Nat) (vv : Int) (b m : Nat) (hw : wm < 4294967296) (hm : m ≤ 31) :
    Value.int .u32 (bits .or .u32 (wm : Int) (bits .and .u64 (IntKind.u64.wrap vv / 2 ^ b) 1 % 4294967296 * 2 ^ m % 4294967296)) = .int .u32 ((wm ||| (vv % 18446744073709551616).toNat / 2 ^ b % 2 * 2 ^ m : Nat) : Int) := by
  have hx : IntKind.u64.wrap vv = ((vv % 18446744073709551616).toNat : Int) := by
    simp only [IntKind.wrap, IntKind.bits, IntKind.signed]
    simp
    omega
  have hlt : (vv % 18446744073709551616).toNat < 18446744073709551616 := by omega
  rw [hx]
  generalize (vv % 18446744073709551616).toNat = x at *
  have h1 : ((x : Int) / 2 ^ b) = ((x / 2 ^ b : Nat) : Int) := by simp
  have h2 := (bits_and_u64_nat (x / 2 ^ b) 1 (Nat.lt_of_le_of_lt (Nat.div_le_self _ _) hlt) (by decide))
  simp only [Int.natCast_one] at h2
  rw [h1, h2, Nat.and_one_is_mod]
  have h3 : x / 2 ^ b % 2 < 2 := Nat.mod_lt _ (by decide)
  generalize x / 2 ^ b % 2 = y at *
  have h4 : ((y : Int) % 4294967296) = y := by omega
  rw [h4]
  exact or_bit wm y m hw hm h3
theorem bcell {W w1 : World} {B : Nat} (hb : Below B W w1) : (∀ b o, b < B → w1.cell? ⟨b, o, none⟩ = W.cell? ⟨b, o, none⟩) ∧ (∀ b o, b < B → w1.frozen? ⟨b, o, none⟩ = W.frozen? ⟨b, o, none⟩) :=
  ⟨fun b o h => hb.cell (p := ⟨b, o, none⟩) h, fun b o h => hb.frozen (p := ⟨b, o, none⟩) h⟩

/-- How often a letter is among the first m signs. -/
def cntL (l : List Nat) (letter : Nat) : Nat → Nat
  | 0 => 0
  | m + 1 => if l.getD m 0 = letter then cntL l letter m + 1 else cntL l letter m
theorem rd_cnt (l : List Nat) (w letter : Nat) : ∀ m, (rd l w letter m).2 = cntL l letter m
  | 0 => rfl
  | m + 1 => by
    have := rd_cnt l w letter m
    simp only [rd, cntL]
    split <;> simp [this]
/-- A letter's number in a word, by the pattern k. -/
def rv (k letter w : Nat) : Nat := (rd (patL k) w letter 32).1
theorem rv_lt (k letter w : Nat) : rv k letter w < 4294967296 := (rd_lt (patL k) w letter 32).1
/-- The instruction that the reference reads, its number and condition aside. -/
def asK (k w : Nat) (imm cond : Int) : I := ⟨k, rv k 100 w, rv k 110 w, rv k 109 w, imm, cond⟩
def immR (k w : Nat) : Int :=
  if k = 14 then IntKind.i64.wrap (63 - (rv k 115 w : Int)) else
  if k = 18 then (if (33554432 : Int) ≤ rv k 105 w then IntKind.i64.wrap ((rv k 105 w : Int) - 67108864) else rv k 105 w) else
  if 19 ≤ k ∧ k ≤ 21 then (if (262144 : Int) ≤ rv k 105 w then IntKind.i64.wrap ((rv k 105 w : Int) - 524288) else rv k 105 w) else
  if k = 22 ∨ k = 23 then IntKind.i64.wrap ((rv k 105 w : Int) * 8) else rv k 105 w
def condR (k w : Nat) : Int := if k = 17 then IntKind.i64.wrap (IntKind.i64.wrap ((rv k 107 w : Int) + 1) - IntKind.i64.wrap (2 * (rv k 107 w : Int).tmod 2)) else rv k 99 w

/-- The instruction that the word w would be, of the operation k: as the reference reads it. -/
def asR (k w : Nat) : I := asK k w (immR k w) (condR k w)
theorem asR_fit (k w : Nat) : (asR k w).fit := by
  have h1 := rv_lt k 100 w
  have h2 := rv_lt k 110 w
  have h3 := rv_lt k 109 w
  have h4 := rv_lt k 105 w
  have h5 := rv_lt k 99 w
  have h6 := rv_lt k 107 w
  have w1 := fun x : Int => wrap_within .i64 x
  refine ⟨?_, ?_, ?_, ?_, ?_⟩
  · show _ ≤ (rv k 100 w : Int) ∧ (rv k 100 w : Int) ≤ _; omega
  · show _ ≤ (rv k 110 w : Int) ∧ (rv k 110 w : Int) ≤ _; omega
  · show _ ≤ (rv k 109 w : Int) ∧ (rv k 109 w : Int) ≤ _; omega
  · show _ ≤ immR k w ∧ immR k w ≤ _
    unfold immR
    (repeat' split) <;> first | exact w1 _ | omega
  · show _ ≤ condR k w ∧ condR k w ≤ _
    unfold condR
    split <;> first | exact w1 _ | omega
/-- Is it that operation's word, by the reference? -/
def hitR (k w : Nat) : Bool := rfitsB (asR k w) && (wdT (asR k w) (patL k) 32 == w)
/-- The first operation whose word it is. -/
def decR (w : Nat) : Option Nat := (List.range 48).find? fun k => decide (1 ≤ k) && hitR k w
def zeroCells : Array Value := #[.int .i64 0, .int .i64 0, .int .i64 0, .int .i64 0, .int .i64 0, .int .i64 0]
def decV (w : Nat) : Value :=
  match decR w with
  | some k => .tuple #[.agg (asR k w).cells, .bool true]
  | none => .tuple #[.agg zeroCells, .bool false]
theorem find_first (p : Nat → Bool) : ∀ (n k : Nat), k < n → p k = true → (∀ j, j < k → p j = false) → (List.range n).find? p = some k := by
  intro n k hk hp hno
  rw [List.find?_eq_some_iff_getElem]
  refine ⟨hp, k, by simpa using hk, by simp, fun j hj => ?_⟩
  simp [hno j hj]
theorem decR_hit (w k : Nat) (h1 : 1 ≤ k) (h2 : k < 48) (hh : hitR k w = true) (hno : ∀ j, 1 ≤ j → j < k → hitR j w = false) : decR w = some k := by
  refine find_first _ 48 k h2 (by simp [h1, hh]) fun j hj => ?_
  by_cases hj1 : 1 ≤ j
  · simp [hno j hj1 hj]
  · simp [hj1]
theorem decR_none (w : Nat) (hno : ∀ j, 1 ≤ j → j < 48 → hitR j w = false) : decR w = none := by
  unfold decR
  rw [List.find?_eq_none]
  intro j hj
  simp only [List.mem_range] at hj
  by_cases hj1 : 1 ≤ j
  · simp [hno j hj1 hj]
  · simp [hj1]
theorem bcells {W w1 : World} {B : Nat} (hb : Below B W w1) : (∀ b o, b < B → w1.cell? ⟨b, o, none⟩ = W.cell? ⟨b, o, none⟩) ∧ (∀ b o, b < B → w1.frozen? ⟨b, o, none⟩ = W.frozen? ⟨b, o, none⟩) := bcell hb
theorem six_cells {W W' : World} {c0 c1 c2 c3 c4 c5 : Value} {t : TypeId} (h : Below (W.heap.size + 1) (W.alloc (.cells #[c0, c1, c2, c3, c4, c5] t)) W') :
    W'.cell? ⟨W.heap.size, 0, none⟩ = some c0 ∧ W'.cell? ⟨W.heap.size, 1, none⟩ = some c1 ∧ W'.cell? ⟨W.heap.size, 2, none⟩ = some c2 ∧ W'.cell? ⟨W.heap.size, 3, none⟩ = some c3 ∧ W'.cell? ⟨W.heap.size, 4, none⟩ = some c4 ∧ W'.cell? ⟨W.heap.size, 5, none⟩ = some c5 ∧
    (W'.frozen? ⟨W.heap.size, 0, none⟩ = false ∧ W'.frozen? ⟨W.heap.size, 1, none⟩ = false ∧ W'.frozen? ⟨W.heap.size, 2, none⟩ = false ∧ W'.frozen? ⟨W.heap.size, 3, none⟩ = false ∧ W'.frozen? ⟨W.heap.size, 4, none⟩ = false ∧ W'.frozen? ⟨W.heap.size, 5, none⟩ = false) := by
  have hc := fun o => (bcell h).1 W.heap.size o (by omega)
  have hf := fun o => (bcell h).2 W.heap.size o (by omega)
  simp only [hc, hf]
  simp [go_sem]
theorem decV_hit (w k : Nat) (h1 : 1 ≤ k) (h2 : k < 48) (hno : ∀ j, 1 ≤ j → j < k → hitR j w = false) (hh : hitR k w = true) : decV w = .tuple #[.agg (asR k w).cells, .bool true] := by
  unfold decV; rw [decR_hit w k h1 h2 hh hno]
theorem decV_none (w : Nat) (hno : ∀ j, 1 ≤ j → j < 48 → hitR j w = false) : decV w = .tuple #[.agg zeroCells, .bool false] := by
  unfold decV; rw [decR_none w hno]

/-- A field's values: only nought, or from lo to hi by steps. -/
def chk : Option (Int × Int × Int) → Int → Bool
  | none, v => v == 0
  | some (lo, hi, st), v => decide (lo ≤ v) && (decide (v ≤ hi) && v.tmod st == 0)
def fd (f : Fld) : Option (Int × Int × Int) := if f.step = 0 then none else some (f.lo, f.hi, f.step)
theorem inB_chk (f : Fld) (v : Int) : inB f v = chk (fd f) v := by
  unfold inB fd
  split <;> rfl
theorem bet_chk (v lo hi : Int) : betB v lo hi = chk (some (lo, hi, 1)) v := by simp [betB, chk]
def regD (op letter : Int) : Option (Int × Int × Int) := if hasB op letter then some (0, topV op letter, 1) else none
theorem reg_chk (op letter v : Int) : regB op letter v = chk (regD op letter) v := by
  unfold regB regD
  split
  · exact bet_chk _ _ _
  · rfl
def immD (op : Int) : Option (Int × Int × Int) :=
  if op = 1 ∨ op = 2 then some (0, 65535, 1) else
  if op = 12 ∨ op = 13 then some (0, 4095, 1) else
  if op = 14 then some (1, 63, 1) else
  if op = 15 then some (0, 63, 1) else
  if op = 18 then some (-33554432, 33554431, 1) else
  if op = 19 ∨ op = 20 ∨ op = 21 then some (-262144, 262143, 1) else
  if op = 22 ∨ op = 23 then some (0, 32760, 8) else
  if op = 33 then some (0, 30, 1) else none
theorem imm_chk (op v : Int) : immB op v = chk (immD op) v := by
  unfold immB immD
  (repeat' split) <;> first | exact bet_chk _ _ _ | rfl | (simp only [betB, chk, Bool.and_assoc])
def condD (op : Int) : Option (Int × Int × Int) := if op = 1 ∨ op = 2 then some (0, 3, 1) else if op = 17 ∨ op = 19 then some (0, 13, 1) else none
theorem cond_chk (op v : Int) : condB op v = chk (condD op) v := by
  unfold condB condD
  (repeat' split) <;> first | exact bet_chk _ _ _ | rfl
def rowD (k : Nat) : Bool := decide (fd (rowOf k).f0 = regD k 100) && (decide (fd (rowOf k).f1 = regD k 110) && (decide (fd (rowOf k).f2 = regD k 109) && (decide (fd (rowOf k).f4 = condD k) && decide (fd (rowOf k).f3 = (if k = 14 then some (0, 63, 1) else immD k)))))
theorem tabDB : ∀ k : Nat, k < 48 → 1 ≤ k → rowD k = true := by decide +kernel
theorem tabD (k : Nat) (h : k < 48) (h1 : 1 ≤ k) : fd (rowOf k).f0 = regD k 100 ∧ fd (rowOf k).f1 = regD k 110 ∧ fd (rowOf k).f2 = regD k 109 ∧ fd (rowOf k).f4 = condD k ∧ fd (rowOf k).f3 = (if k = 14 then some (0, 63, 1) else immD k) := by
  have := tabDB k h h1
  simp only [rowD, Bool.and_eq_true, decide_eq_true_eq] at this
  exact this
theorem fits_eq (i : I) : fitsI i = rfitsB i := by
  unfold fitsI rfitsB
  by_cases h1 : 1 ≤ i.op
  · by_cases h2 : i.op ≤ 47
    · rw [decide_eq_true h1, decide_eq_true h2, Bool.true_and, Bool.true_and, Bool.true_and, Bool.true_and]
      obtain ⟨op, rd, rn, rm, imm, cond⟩ := i
      simp only at h1 h2 ⊢
      obtain ⟨k, rfl⟩ := Int.eq_ofNat_of_zero_le (show 0 ≤ op by omega)
      have hk1 : 1 ≤ k := by omega
      have hk : k < 48 := by omega
      obtain ⟨t0, t1, t2, t4, t3⟩ := tabD k hk hk1
      have hrow : rowAt (k : Int) = rowOf k := by unfold rowAt; rw [if_pos ⟨h1, h2⟩, Int.toNat_natCast]
      rw [hrow]
      unfold fitsB
      simp only [inB_chk, reg_chk, imm_chk, cond_chk, t0, t1, t2, t3, t4]
      by_cases h14 : k = 14
      · subst h14
        rw [if_pos rfl, if_pos (show ((14 : Nat) : Int) = 14 from rfl), if_neg (show ¬ (((14 : Nat) : Int) = 28 ∨ ((14 : Nat) : Int) = 29) by decide)]
        have e : immD ((14 : Nat) : Int) = some (1, 63, 1) := by decide
        rw [e]
        generalize chk (regD _ 100) rd = a
        generalize chk (regD _ 110) rn = b
        generalize chk (regD _ 109) rm = c
        generalize chk (condD _) cond = d
        cases a <;> cases b <;> cases c <;> cases d <;> simp [chk]
        rw [Bool.eq_iff_iff]
        simp
        omega
      · rw [if_neg h14, if_neg (show ¬ ((k : Nat) : Int) = 14 by omega)]
    · rw [decide_eq_false h2]
      simp
  · rw [decide_eq_false h1]
    simp

theorem rd_none (l : List Nat) (w c a : Nat) (h : ∀ j, j < a → l.getD j 0 ≠ c) : ∀ m, m ≤ a → (rd l w c m).1 = 0
  | 0, _ => rfl
  | m + 1, hm => by
    simp only [rd]
    rw [if_neg (h m (by omega))]
    exact rd_none l w c a h m (by omega)
theorem bit_step (y t : Nat) : y / 2 % 2 ^ t * 2 + y % 2 = y % 2 ^ (t + 1) := by
  rw [Nat.pow_succ, Nat.mul_comm (2 ^ t) 2, Nat.mod_mul]
  omega
theorem rd_in (l : List Nat) (w c a pos width : Nat) (ha : a + width + pos = 32) (h0 : ∀ j, j < a → l.getD j 0 ≠ c) (h1 : ∀ j, a ≤ j → j < a + width → l.getD j 0 = c) : ∀ t, t ≤ width → (rd l w c (a + t)).1 = w / 2 ^ (pos + width - t) % 2 ^ t
  | 0, _ => by rw [Nat.add_zero, rd_none l w c a h0 a (Nat.le_refl _)]; simp [Nat.mod_one]
  | t + 1, ht => by
    have ih := rd_in l w c a pos width ha h0 h1 t (by omega)
    show (rd l w c (a + t + 1)).1 = _
    simp only [rd]
    rw [if_pos (h1 (a + t) (by omega) (by omega))]
    simp only
    rw [ih, show 31 - (a + t) = pos + width - (t + 1) by omega, show pos + width - t = pos + width - (t + 1) + 1 by omega]
    rw [Nat.pow_succ 2 (pos + width - (t + 1)), ← Nat.div_div_eq_div_mul]
    exact bit_step _ t
theorem rd_out (l : List Nat) (w c b : Nat) (h2 : ∀ j, b ≤ j → j < 32 → l.getD j 0 ≠ c) : ∀ s, b + s ≤ 32 → (rd l w c (b + s)).1 = (rd l w c b).1
  | 0, _ => rfl
  | s + 1, hs => by
    show (rd l w c (b + s + 1)).1 = _
    simp only [rd]
    rw [if_neg (h2 (b + s) (by omega) (by omega))]
    exact rd_out l w c b h2 s (by omega)
/-- A letter stands just at the bits of a field. -/
def blockOk (l : List Nat) (c pos width : Nat) : Bool :=
  decide (pos + width ≤ 32) && (List.range 32).all fun j => decide (l.getD j 0 = c ↔ (32 - pos - width ≤ j ∧ j < 32 - pos))
theorem rd_block (l : List Nat) (w c pos width : Nat) (h : blockOk l c pos width = true) : (rd l w c 32).1 = w / 2 ^ pos % 2 ^ width := by
  simp only [blockOk, Bool.and_eq_true, decide_eq_true_eq, List.all_eq_true, List.mem_range] at h
  obtain ⟨hp, h⟩ := h
  have e1 := rd_in l w c (32 - pos - width) pos width (by omega) (fun j hj hc => by have := (h j (by omega)).1 hc; omega) (fun j h1 h2 => (h j (by omega)).2 ⟨h1, by omega⟩) width (Nat.le_refl _)
  have e2 := rd_out l w c (32 - pos) (fun j h1 h2 hc => by have := (h j (by omega)).1 hc; omega) pos (by omega)
  rw [show 32 - pos + pos = 32 by omega] at e2
  rw [show 32 - pos - width + width = 32 - pos by omega] at e1
  rw [e2, e1]
  simp
/-- A field that is read as the reference reads a letter. -/
def okF (l : List Nat) (c : Nat) (f : Fld) : Bool := blockOk l c f.pos f.width && (f.width == 0 || (decide (f.lo = 0) && decide (f.step = 1) && !f.turned))
theorem read_ok (k c w : Nat) (f : Fld) (h : okF (patL k) c f = true) : readN f w = rv k c w := by
  simp only [okF, Bool.and_eq_true, Bool.or_eq_true, beq_iff_eq, decide_eq_true_eq, Bool.not_eq_true'] at h
  obtain ⟨hb, h⟩ := h
  unfold rv
  rw [rd_block _ w c _ _ hb]
  rcases h with h | ⟨⟨h1, h2⟩, h3⟩
  · simp [readN, h, Nat.mod_one]
  · unfold readN
    by_cases hw : f.width = 0
    · simp [hw, Nat.mod_one]
    · simp [hw, h1, h2, h3]
theorem tabR : ∀ k : Nat, k < 48 → 1 ≤ k → okF (patL k) 100 (rowOf k).f0 = true ∧ okF (patL k) 110 (rowOf k).f1 = true ∧ okF (patL k) 109 (rowOf k).f2 = true ∧ (k ≠ 17 → okF (patL k) 99 (rowOf k).f4 = true) ∧ (k ≠ 14 → ¬ (18 ≤ k ∧ k ≤ 23) → okF (patL k) 105 (rowOf k).f3 = true) := by decide +kernel
theorem tabS : blockOk (patL 17) 107 12 4 = true ∧ blockOk (patL 18) 105 0 26 = true ∧ blockOk (patL 19) 105 5 19 = true ∧ blockOk (patL 20) 105 5 19 = true ∧ blockOk (patL 21) 105 5 19 = true ∧ blockOk (patL 22) 105 10 12 = true ∧ blockOk (patL 23) 105 10 12 = true ∧ blockOk (patL 14) 115 10 6 = true := by decide +kernel
theorem cond17 : ∀ v : Nat, v < 16 → IntKind.i64.wrap (IntKind.i64.wrap ((v : Int) + 1) - IntKind.i64.wrap (2 * (v : Int).tmod 2)) = ((v ^^^ 1 : Nat) : Int) := by decide +kernel
theorem near_eq (pos width n w : Nat) (hn : width = n + 1) (hn2 : n < 31) (lo hi : Int) (hlo : lo < 0) :
    readN ⟨pos, width, lo, hi, 1, false⟩ w = if ((2 ^ n : Nat) : Int) ≤ ((w / 2 ^ pos % 2 ^ width : Nat) : Int) then IntKind.i64.wrap (((w / 2 ^ pos % 2 ^ width : Nat) : Int) - ((2 ^ width : Nat) : Int)) else ((w / 2 ^ pos % 2 ^ width : Nat) : Int) := by
  subst hn
  have hl : w / 2 ^ pos % 2 ^ (n + 1) < 2 ^ (n + 1) := Nat.mod_lt _ (Nat.two_pow_pos _)
  have h32 : 2 ^ (n + 1) < 4294967296 := pow_lt32 _ (by omega)
  unfold readN
  simp only [Nat.add_one_ne_zero, if_false, Bool.false_eq_true, Nat.add_sub_cancel, Int.mul_one]
  generalize w / 2 ^ pos % 2 ^ (n + 1) = y at *
  by_cases hc : 2 ^ n ≤ y
  · rw [if_pos ⟨hlo, hc⟩, if_pos (by exact_mod_cast hc), IntWalk.i64_in _ (by omega)]
    simp
  · rw [if_neg (fun h => hc h.2), if_neg (by exact_mod_cast hc)]
theorem as_eq (k w : Nat) (hk : k < 48) (hk1 : 1 ≤ k) (hw : w < 4294967296) : asC k w = asR k w := by
  obtain ⟨r0, r1, r2, r4, r3⟩ := tabR k hk hk1
  obtain ⟨s17, s18, s19, s20, s21, s22, s23, s14⟩ := tabS
  unfold asC asE asR asK
  rw [read_ok k 100 w _ r0, read_ok k 110 w _ r1, read_ok k 109 w _ r2]
  have hc : readN (rowOf k).f4 w = condR k w := by
    unfold condR
    by_cases h : k = 17
    · subst h
      rw [if_pos rfl]
      have e : rv 17 107 w = w / 2 ^ 12 % 2 ^ 4 := rd_block _ w 107 12 4 s17
      rw [e, cond17 _ (Nat.mod_lt _ (by decide))]
      simp [readN, rowOf]
    · rw [if_neg h]
      exact read_ok k 99 w _ (r4 h)
  have hi : (if k = 14 then immL w else readN (rowOf k).f3 w) = immR k w := by
    unfold immR
    by_cases h14 : k = 14
    · subst h14
      rw [if_pos rfl, if_pos rfl]
      have e : rv 14 115 w = w / 2 ^ 10 % 2 ^ 6 := rd_block _ w 115 10 6 s14
      rw [e]
      unfold immL
      have e2 : ((w : Int).fdiv (2 ^ 10)) = ((w / 2 ^ 10 : Nat) : Int) := by
        rw [Int.fdiv_eq_ediv_of_nonneg _ (by decide)]; simp
      have e3 := and32 (w / 2 ^ 10) 63 (Nat.lt_of_le_of_lt (Nat.div_le_self _ _) hw) (by decide)
      have e4 : (w / 2 ^ 10) &&& 63 = w / 2 ^ 10 % 2 ^ 6 := by
        rw [← Nat.and_two_pow_sub_one_eq_mod]
      rw [e4] at e3
      rw [e2]
      have e5 : ((63 : Nat) : Int) = 63 := rfl
      rw [e5] at e3
      rw [e3, IntWalk.i64_in ((w / 2 ^ 10 % 2 ^ 6 : Nat) : Int) (by have : w / 2 ^ 10 % 2 ^ 6 < 64 := Nat.mod_lt _ (by decide); omega)]
    rw [if_neg h14, if_neg h14]
    by_cases h18 : k = 18
    · subst h18
      rw [if_pos rfl]
      have e : rv 18 105 w = w / 2 ^ 0 % 2 ^ 26 := rd_block _ w 105 0 26 s18
      rw [e]
      exact near_eq 0 26 25 w rfl (by decide) (-33554432) 33554431 (by decide)
    rw [if_neg h18]
    by_cases h19 : 19 ≤ k ∧ k ≤ 21
    · rw [if_pos h19]
      have e : rv k 105 w = w / 2 ^ 5 % 2 ^ 19 := by
        rcases (show k = 19 ∨ k = 20 ∨ k = 21 by omega) with rfl | rfl | rfl
        · exact rd_block _ w 105 5 19 s19
        · exact rd_block _ w 105 5 19 s20
        · exact rd_block _ w 105 5 19 s21
      have er : (rowOf k).f3 = ⟨5, 19, -262144, 262143, 1, false⟩ := by
        rcases (show k = 19 ∨ k = 20 ∨ k = 21 by omega) with rfl | rfl | rfl <;> rfl
      rw [e, er]
      exact near_eq 5 19 18 w rfl (by decide) (-262144) 262143 (by decide)
    rw [if_neg h19]
    by_cases h22 : k = 22 ∨ k = 23
    · rw [if_pos h22]
      have e : rv k 105 w = w / 2 ^ 10 % 2 ^ 12 := by
        rcases h22 with rfl | rfl
        · exact rd_block _ w 105 10 12 s22
        · exact rd_block _ w 105 10 12 s23
      have er : (rowOf k).f3 = ⟨10, 12, 0, 32760, 8, false⟩ := by
        rcases h22 with rfl | rfl <;> rfl
      have hl : w / 2 ^ 10 % 2 ^ 12 < 4096 := Nat.mod_lt _ (by decide)
      rw [e, er, IntWalk.i64_in _ (by omega)]
      simp [readN]
    rw [if_neg h22]
    exact read_ok k 105 w _ (r3 h14 (by omega))
  rw [hc, hi]

def cov (f : Fld) (j : Nat) : Bool := decide (f.pos ≤ j) && decide (j < f.pos + f.width)
def srcN (f : Fld) (v : Int) : Nat := if f.turned then (v.tdiv f.step % 4294967296).toNat ^^^ 1 else (v.tdiv f.step % 4294967296).toNat
theorem lay_bit (f : Fld) (v : Int) (j : Nat) (hp : f.pos + f.width ≤ 32) : (layN f v).testBit j = (cov f j && (srcN f v).testBit (j - f.pos)) := by
  unfold layN cov srcN
  by_cases hw : f.width = 0
  · simp only [hw, if_true, Nat.zero_testBit, Nat.add_zero]
    by_cases h1 : f.pos ≤ j
    · have : decide (j < f.pos) = false := by simp; omega
      simp [this]
    · simp [h1]
  · rw [if_neg hw]
    simp only
    generalize (v.tdiv f.step % 4294967296).toNat = x
    have hx : x % 2 ^ f.width < 2 ^ f.width := Nat.mod_lt _ (Nat.two_pow_pos _)
    have h1w : 1 < 2 ^ f.width := Nat.one_lt_two_pow hw
    have key : ∀ y : Nat, y < 2 ^ f.width → (∀ m, m < f.width → y.testBit m = (if f.turned then x ^^^ 1 else x).testBit m) → (y * 2 ^ f.pos % 4294967296).testBit j = (decide (f.pos ≤ j) && decide (j < f.pos + f.width) && (if f.turned then x ^^^ 1 else x).testBit (j - f.pos)) := by
      intro y hy hm
      have hlt : y * 2 ^ f.pos < 4294967296 := by
        calc y * 2 ^ f.pos < 2 ^ f.width * 2 ^ f.pos := Nat.mul_lt_mul_of_pos_right hy (Nat.two_pow_pos _)
          _ = 2 ^ (f.width + f.pos) := (Nat.pow_add 2 _ _).symm
          _ ≤ 2 ^ 32 := Nat.pow_le_pow_right (by decide) (by omega)
      rw [Nat.mod_eq_of_lt hlt, ← Nat.shiftLeft_eq, Nat.testBit_shiftLeft]
      by_cases h1 : f.pos ≤ j
      · by_cases h2 : j < f.pos + f.width
        · rw [hm (j - f.pos) (by omega)]
          simp [h1, h2]
        · have : y.testBit (j - f.pos) = false := Nat.testBit_lt_two_pow (Nat.lt_of_lt_of_le hy (Nat.pow_le_pow_right (by decide) (by omega)))
          rw [this]
          simp [h2]
      · simp [h1]
    cases ht : f.turned
    · rw [ht] at key
      simp only [Bool.false_eq_true, if_false] at key ⊢
      exact key _ hx (fun m hm => by rw [Nat.testBit_mod_two_pow]; simp [hm])
    · rw [ht] at key
      simp only [if_true] at key ⊢
      refine key _ (Nat.xor_lt_two_pow hx h1w) (fun m hm => by rw [Nat.testBit_xor, Nat.testBit_xor, Nat.testBit_mod_two_pow]; simp [hm])
theorem wd_bit (i : I) (l : List Nat) : ∀ m j, j < m → (wdT i l m).testBit j = decide (bitV i l (31 - j) = 1)
  | 0, j, h => by omega
  | m + 1, j, h => by
    have hb := bitV_lt i l (31 - m)
    simp only [wdT]
    rw [Nat.testBit_or, ← Nat.shiftLeft_eq, Nat.testBit_shiftLeft]
    by_cases hj : j < m
    · rw [wd_bit i l m j hj]
      have : decide (m ≤ j) = false := by simp; omega
      simp [this]
    · have : j = m := by omega
      subst this
      rw [Nat.testBit_lt_two_pow (wdT_lt i l j)]
      generalize bitV i l (31 - j) = b at *
      have : b = 0 ∨ b = 1 := by omega
      rcases this with rfl | rfl <;> simp
def orN (r : Row) (i : I) : Nat := ((((r.word ||| layN r.f0 i.rd) ||| layN r.f1 i.rn) ||| layN r.f2 i.rm) ||| layN r.f3 i.imm) ||| layN r.f4 i.cond
theorem or_lt (a b : Nat) (ha : a < 4294967296) (hb : b < 4294967296) : a ||| b < 4294967296 := Nat.or_lt_two_pow (n := 32) ha hb
theorem laidE_eq (r : Row) (i : I) (hw : r.word < 4294967296) : laidE r i = (orN r i : Nat) ∧ orN r i < 4294967296 := by
  have l0 := layN_lt r.f0 i.rd
  have l1 := layN_lt r.f1 i.rn
  have l2 := layN_lt r.f2 i.rm
  have l3 := layN_lt r.f3 i.imm
  have l4 := layN_lt r.f4 i.cond
  unfold laidE orN
  have o0 := or_lt _ _ hw l0
  have o1 := or_lt _ _ o0 l1
  have o2 := or_lt _ _ o1 l2
  have o3 := or_lt _ _ o2 l3
  rw [or32 _ _ hw l0, or32 _ _ o0 l1, or32 _ _ o1 l2, or32 _ _ o2 l3, or32 _ _ o3 l4]
  exact ⟨rfl, or_lt _ _ o3 l4⟩
theorem orN_bit (r : Row) (i : I) (j : Nat) (h0 : r.f0.pos + r.f0.width ≤ 32) (h1 : r.f1.pos + r.f1.width ≤ 32) (h2 : r.f2.pos + r.f2.width ≤ 32) (h3 : r.f3.pos + r.f3.width ≤ 32) (h4 : r.f4.pos + r.f4.width ≤ 32) :
    (orN r i).testBit j = (r.word.testBit j || (cov r.f0 j && (srcN r.f0 i.rd).testBit (j - r.f0.pos)) || (cov r.f1 j && (srcN r.f1 i.rn).testBit (j - r.f1.pos)) || (cov r.f2 j && (srcN r.f2 i.rm).testBit (j - r.f2.pos)) || (cov r.f3 j && (srcN r.f3 i.imm).testBit (j - r.f3.pos)) || (cov r.f4 j && (srcN r.f4 i.cond).testBit (j - r.f4.pos))) := by
  unfold orN
  simp only [Nat.testBit_or, lay_bit _ _ _ h0, lay_bit _ _ _ h1, lay_bit _ _ _ h2, lay_bit _ _ _ h3, lay_bit _ _ _ h4]
/-- Which fields stand at a bit: the field t alone (5: none). -/
def alone (r : Row) (j t : Nat) : Bool := (cov r.f0 j == (t == 0)) && ((cov r.f1 j == (t == 1)) && ((cov r.f2 j == (t == 2)) && ((cov r.f3 j == (t == 3)) && (cov r.f4 j == (t == 4)))))
def bitOk (k j : Nat) : Bool :=
  let r := rowOf k
  let c := (patL k).getD (31 - j) 0
  let b := bh (patL k) c (31 - j) j
  if c = 48 then alone r j 5 && !r.word.testBit j
  else if c = 49 then alone r j 5 && r.word.testBit j
  else !r.word.testBit j && (
    if c = 100 then alone r j 0 && (j - r.f0.pos == b && (decide (r.f0.step = 1) && !r.f0.turned))
    else if c = 110 then alone r j 1 && (j - r.f1.pos == b && (decide (r.f1.step = 1) && !r.f1.turned))
    else if c = 109 then alone r j 2 && (j - r.f2.pos == b && (decide (r.f2.step = 1) && !r.f2.turned))
    else if c = 105 then alone r j 3 && (j - r.f3.pos == b && (decide (r.f3.step = if k = 22 ∨ k = 23 then 8 else 1) && !r.f3.turned))
    else if c = 99 then alone r j 4 && (j - r.f4.pos == b && (decide (r.f4.step = 1) && !r.f4.turned))
    else if c = 107 then alone r j 4 && (j - r.f4.pos == b && (decide (r.f4.step = 1) && (r.f4.turned && decide (k = 17))))
    else if c = 114 then alone r j 5 && (decide (k = 14) && (decide (16 ≤ j) && (decide (j < 22) && j - 16 == b)))
    else if c = 115 then alone r j 5 && (decide (k = 14) && (decide (10 ≤ j) && (decide (j < 16) && j - 10 == b)))
    else false) && (decide (k ≠ 14) || (decide (c = 114) == (decide (16 ≤ j) && decide (j < 22))) && (decide (c = 115) == (decide (10 ≤ j) && decide (j < 16))))
theorem tabB : ∀ k : Nat, k < 48 → 1 ≤ k → ∀ j : Nat, j < 32 → bitOk k j = true := by decide +kernel
theorem tab14 : ∀ j : Nat, j < 32 → ((16 ≤ j ∧ j < 22) ↔ (patL 14).getD (31 - j) 0 = 114) ∧ ((10 ≤ j ∧ j < 16) ↔ (patL 14).getD (31 - j) 0 = 115) := by decide +kernel
theorem tabW : ∀ k : Nat, k < 48 → (rowOf k).f0.pos + (rowOf k).f0.width ≤ 32 ∧ (rowOf k).f1.pos + (rowOf k).f1.width ≤ 32 ∧ (rowOf k).f2.pos + (rowOf k).f2.width ≤ 32 ∧ (rowOf k).f3.pos + (rowOf k).f3.width ≤ 32 ∧ (rowOf k).f4.pos + (rowOf k).f4.width ≤ 32 := by decide +kernel
theorem toNat_bit (v : Int) (b : Nat) (hb : b < 32) : ((v % 4294967296).toNat).testBit b = ((v % 18446744073709551616).toNat).testBit b := by
  have : (v % 4294967296).toNat = (v % 18446744073709551616).toNat % 2 ^ 32 := by omega
  rw [this, Nat.testBit_mod_two_pow]
  simp [hb]
theorem wrap_mod (v : Int) : IntKind.i64.wrap v % 18446744073709551616 = v % 18446744073709551616 := by
  rw [IntKind.wrap_i64]; omega
theorem bit_of (x b : Nat) : decide (x / 2 ^ b % 2 = 1) = x.testBit b := by
  rw [Nat.testBit_eq_decide_div_mod_eq]
theorem src_one (f : Fld) (v : Int) (hs : f.step = 1) (ht : f.turned = false) : srcN f v = (v % 4294967296).toNat := by
  unfold srcN; rw [hs, ht, Int.tdiv_one]; rfl
theorem src_eight (f : Fld) (v : Int) (hs : f.step = 8) (ht : f.turned = false) : srcN f v = (v.tdiv 8 % 4294967296).toNat := by
  unfold srcN; rw [hs, ht]; rfl
theorem src_turned (f : Fld) (v : Int) (hs : f.step = 1) (ht : f.turned = true) : srcN f v = (v % 4294967296).toNat ^^^ 1 := by
  unfold srcN; rw [hs, ht, Int.tdiv_one]; rfl
theorem cond_turned : ∀ v : Nat, v < 14 → ((if (v : Int).tmod 2 = 0 then IntKind.i64.wrap ((v : Int) + 1) else IntKind.i64.wrap ((v : Int) - 1)) % 18446744073709551616).toNat = v ^^^ 1 := by decide +kernel
/-- What lsl's second field adds. -/
def extN (n : Nat) : Nat := (64 - n) * 2 ^ 16 ||| (63 - n) * 2 ^ 10
theorem ext_bit (n j : Nat) (h1 : 1 ≤ n) : (extN n).testBit j = (decide (16 ≤ j) && (decide (j < 22) && (64 - n).testBit (j - 16)) || (decide (10 ≤ j) && (decide (j < 16) && (63 - n).testBit (j - 10)))) := by
  unfold extN
  rw [Nat.testBit_or, ← Nat.shiftLeft_eq, ← Nat.shiftLeft_eq, Nat.testBit_shiftLeft, Nat.testBit_shiftLeft]
  congr 1
  · by_cases h : j < 22
    · simp [h]
    · have : (64 - n).testBit (j - 16) = false := Nat.testBit_lt_two_pow (Nat.lt_of_lt_of_le (show 64 - n < 2 ^ 6 by omega) (Nat.pow_le_pow_right (by decide) (by omega)))
      simp [this]
  · by_cases h : j < 16
    · simp [h]
    · have : (63 - n).testBit (j - 10) = false := Nat.testBit_lt_two_pow (Nat.lt_of_lt_of_le (show 63 - n < 2 ^ 6 by omega) (Nat.pow_le_pow_right (by decide) (by omega)))
      simp [this]
theorem u32_in (x : Nat) (h : x < 4294967296) : IntKind.u32.wrap (x : Int) = x := by
  rw [IntKind.wrap_u32]; omega
theorem laidL_eq (r : Row) (i : I) (n : Nat) (hw : r.word < 4294967296) (hn : i.imm = n) (h1 : 1 ≤ n) (h2 : n ≤ 63) : laidL r i = ((orN r i ||| extN n : Nat) : Int) := by
  obtain ⟨e, hl⟩ := laidE_eq r i hw
  unfold laidL
  rw [e, hn]
  have a1 : IntKind.i64.wrap (64 - (n : Int)) = ((64 - n : Nat) : Int) := by rw [IntWalk.i64_in _ (by omega)]; omega
  have a2 : IntKind.i64.wrap (63 - (n : Int)) = ((63 - n : Nat) : Int) := by rw [IntWalk.i64_in _ (by omega)]; omega
  have b1 : ((64 - n : Nat) : Int) * 2 ^ 16 = (((64 - n) * 2 ^ 16 : Nat) : Int) := by simp
  have b2 : ((63 - n : Nat) : Int) * 2 ^ 10 = (((63 - n) * 2 ^ 10 : Nat) : Int) := by simp
  have c1 : (64 - n) * 2 ^ 16 < 4294967296 := Nat.lt_of_le_of_lt (Nat.mul_le_mul_right (2 ^ 16) (show 64 - n ≤ 64 by omega)) (by decide)
  have c2 : (63 - n) * 2 ^ 10 < 4294967296 := Nat.lt_of_le_of_lt (Nat.mul_le_mul_right (2 ^ 10) (show 63 - n ≤ 63 by omega)) (by decide)
  rw [a1, a2, u32_in _ (by omega), u32_in _ (by omega), b1, b2, u32_in _ c1, u32_in _ c2, or32 _ _ c1 c2, or32 _ _ hl (or_lt _ _ c1 c2)]
  rfl
theorem bit_form (i : I) (l : List Nat) (j : Nat) (hj : j < 32) : decide (bitV i l (31 - j) = 1) = if l.getD (31 - j) 0 = 49 then true else if 57 < l.getD (31 - j) 0 then ((valV i (l.getD (31 - j) 0)) % 18446744073709551616).toNat.testBit (bh l (l.getD (31 - j) 0) (31 - j) j) else false := by
  unfold bitV
  rw [show 31 - (31 - j) = j by omega]
  split
  · rfl
  · split
    · exact bit_of _ _
    · rfl
theorem fits_cond (i : I) (hf : fitsB (rowOf 17) i = true) : ∃ c : Nat, i.cond = c ∧ c < 14 := by
  unfold fitsB at hf
  simp only [Bool.and_eq_true] at hf
  have h := hf.2.2.2.2.1
  simp [inB, rowOf] at h
  exact ⟨i.cond.toNat, by omega, by omega⟩
theorem fits_imm (i : I) (ho : i.op = 14) (hf : fitsB (rowOf 14) i = true) : ∃ n : Nat, i.imm = n ∧ 1 ≤ n ∧ n ≤ 63 := by
  unfold fitsB at hf
  simp only [Bool.and_eq_true] at hf
  have h := hf.2.2.2.1
  have h2 := hf.2.2.2.2.2
  simp [inB, rowOf] at h
  simp [ho] at h2
  exact ⟨i.imm.toNat, by omega, by omega, by omega⟩
theorem full_bit (i : I) (k j n : Nat) (ho : i.op = k) (h1 : 1 ≤ k) (hk : k < 48) (hf : fitsB (rowOf k) i = true) (hj : j < 32) (hn : k = 14 → i.imm = n ∧ 1 ≤ n ∧ n ≤ 63) :
    ((orN (rowOf k) i).testBit j || (decide (k = 14) && (extN n).testBit j)) = decide (bitV i (patL k) (31 - j) = 1) := by
  have t := tabB k hk h1 j hj
  obtain ⟨w0, w1, w2, w3, w4⟩ := tabW k hk
  rw [orN_bit (rowOf k) i j w0 w1 w2 w3 w4, bit_form i _ j hj]
  have hc17 : k = 17 → ∃ c : Nat, i.cond = c ∧ c < 14 := fun h => by subst h; exact fits_cond i hf
  have he : (decide (k = 14) && (extN n).testBit j) = (decide (k = 14) && (decide ((patL k).getD (31 - j) 0 = 114) && (64 - n).testBit (j - 16) || decide ((patL k).getD (31 - j) 0 = 115) && (63 - n).testBit (j - 10))) := by
    by_cases h : k = 14
    · subst h
      obtain ⟨e1, e2⟩ := tab14 j hj
      rw [ext_bit n j (hn rfl).2.1, ← decide_eq_decide.2 e1, ← decide_eq_decide.2 e2, Bool.decide_and, Bool.decide_and, Bool.and_assoc, Bool.and_assoc]
    · simp [h]
  rw [he]
  clear he hf
  unfold bitOk at t
  simp only at t
  generalize (patL k).getD (31 - j) 0 = c at *
  generalize bh (patL k) c (31 - j) j = b at *
  generalize rowOf k = r at *
  by_cases c48 : c = 48
  · subst c48
    simp [alone] at t
    simp [t]
  by_cases c49 : c = 49
  · subst c49
    simp [alone] at t
    simp [t]
  rw [if_neg c48, if_neg c49] at t
  by_cases c100 : c = 100
  · subst c100
    simp [alone] at t
    obtain ⟨⟨hw, ⟨a0, a1, a2, a3, a4⟩, hb, hs, ht⟩, -⟩ := t
    have e := src_one r.f0 i.rd hs ht
    have e2 := toNat_bit i.rd b (by omega)
    simp [hw, a0, a1, a2, a3, a4, hb, e, e2, valV]
  by_cases c110 : c = 110
  · subst c110
    simp [alone] at t
    obtain ⟨⟨hw, ⟨a0, a1, a2, a3, a4⟩, hb, hs, ht⟩, -⟩ := t
    have e := src_one r.f1 i.rn hs ht
    have e2 := toNat_bit i.rn b (by omega)
    simp [hw, a0, a1, a2, a3, a4, hb, e, e2, valV]
  by_cases c109 : c = 109
  · subst c109
    simp [alone] at t
    obtain ⟨⟨hw, ⟨a0, a1, a2, a3, a4⟩, hb, hs, ht⟩, -⟩ := t
    have e := src_one r.f2 i.rm hs ht
    have e2 := toNat_bit i.rm b (by omega)
    simp [hw, a0, a1, a2, a3, a4, hb, e, e2, valV]
  by_cases c105 : c = 105
  · subst c105
    simp [alone] at t
    obtain ⟨⟨hw, ⟨a0, a1, a2, a3, a4⟩, hb, hs, ht⟩, -⟩ := t
    by_cases h22 : k = 22 ∨ k = 23
    · rw [if_pos h22] at hs
      have e := src_eight r.f3 i.imm hs ht
      have e2 := toNat_bit (i.imm.tdiv 8) b (by omega)
      have h22' : i.op = 22 ∨ i.op = 23 := by omega
      simp [hw, a0, a1, a2, a3, a4, hb, e, e2, valV, h22', wrap_mod]
    · rw [if_neg h22] at hs
      have e := src_one r.f3 i.imm hs ht
      have e2 := toNat_bit i.imm b (by omega)
      have h22' : ¬ (i.op = 22 ∨ i.op = 23) := by omega
      simp [hw, a0, a1, a2, a3, a4, hb, e, e2, valV, h22']
  by_cases c99 : c = 99
  · subst c99
    simp [alone] at t
    obtain ⟨⟨hw, ⟨a0, a1, a2, a3, a4⟩, hb, hs, ht⟩, -⟩ := t
    have e := src_one r.f4 i.cond hs ht
    have e2 := toNat_bit i.cond b (by omega)
    simp [hw, a0, a1, a2, a3, a4, hb, e, e2, valV]
  by_cases c107 : c = 107
  · subst c107
    simp [alone] at t
    obtain ⟨⟨hw, ⟨a0, a1, a2, a3, a4⟩, hb, hs, ht, h17⟩, -⟩ := t
    obtain ⟨v, hv, hv2⟩ := hc17 h17
    have e := src_turned r.f4 i.cond hs ht
    have e2 := cond_turned v hv2
    have e3 : ((v : Int) % 4294967296).toNat = v := by omega
    rw [hv, e3] at e
    have e4 : valV i 107 = if (v : Int).tmod 2 = 0 then IntKind.i64.wrap ((v : Int) + 1) else IntKind.i64.wrap ((v : Int) - 1) := by rw [← hv]; rfl
    rw [e4, e2, hv, e]
    simp [hw, a0, a1, a2, a3, a4, hb]
  by_cases c114 : c = 114
  · subst c114
    simp [alone] at t
    obtain ⟨⟨hw, ⟨a0, a1, a2, a3, a4⟩, h14, hb1, hb2, hb⟩, -⟩ := t
    obtain ⟨e, e1, e2⟩ := hn h14
    have e4 : valV i 114 = ((64 - n : Nat) : Int) := by
      show IntKind.i64.wrap (64 - i.imm) = _
      rw [e, IntWalk.i64_in _ (by omega)]; omega
    have e5 : (((64 - n : Nat) : Int) % 18446744073709551616).toNat = 64 - n := by omega
    rw [e4, e5]
    simp [hw, a0, a1, a2, a3, a4, hb, h14]
  by_cases c115 : c = 115
  · subst c115
    simp [alone] at t
    obtain ⟨⟨hw, ⟨a0, a1, a2, a3, a4⟩, h14, hb1, hb2, hb⟩, -⟩ := t
    obtain ⟨e, e1, e2⟩ := hn h14
    have e4 : valV i 115 = ((63 - n : Nat) : Int) := by
      show IntKind.i64.wrap (63 - i.imm) = _
      rw [e, IntWalk.i64_in _ (by omega)]; omega
    have e5 : (((63 - n : Nat) : Int) % 18446744073709551616).toNat = 63 - n := by omega
    rw [e4, e5]
    simp [hw, a0, a1, a2, a3, a4, hb, h14]
  simp [c100, c110, c109, c105, c99, c107, c114, c115] at t
theorem word_row : ∀ k : Nat, k < 48 → (rowOf k).word < 4294967296 := by decide +kernel
theorem orN_lt (r : Row) (i : I) (hw : r.word < 4294967296) : orN r i < 4294967296 := (laidE_eq r i hw).2
theorem word_eq (i : I) (k : Nat) (ho : i.op = k) (h1 : 1 ≤ k) (hk : k < 48) (hf : fitsB (rowOf k) i = true) : laidV (rowOf k) i = ((wdT i (patL k) 32 : Nat) : Int) := by
  have hw := word_row k hk
  have hlt := wdT_lt i (patL k) 32
  unfold laidV
  by_cases h14 : k = 14
  · subst h14
    obtain ⟨n, e, e1, e2⟩ := fits_imm i ho hf
    have c1 : (64 - n) * 2 ^ 16 < 4294967296 := Nat.lt_of_le_of_lt (Nat.mul_le_mul_right (2 ^ 16) (show 64 - n ≤ 64 by omega)) (by decide)
    have c2 : (63 - n) * 2 ^ 10 < 4294967296 := Nat.lt_of_le_of_lt (Nat.mul_le_mul_right (2 ^ 10) (show 63 - n ≤ 63 by omega)) (by decide)
    rw [if_pos (show i.op = 14 from ho), laidL_eq _ i n hw e e1 e2]
    have hl2 : orN (rowOf 14) i ||| extN n < 4294967296 := or_lt _ _ (orN_lt _ i hw) (or_lt _ _ c1 c2)
    congr 1
    refine Nat.eq_of_testBit_eq fun j => ?_
    by_cases hj : j < 32
    · rw [wd_bit i _ 32 j hj, ← full_bit i 14 j n ho h1 hk hf hj (fun _ => ⟨e, e1, e2⟩), Nat.testBit_or]
      simp
    · rw [Nat.testBit_lt_two_pow (Nat.lt_of_lt_of_le hl2 (Nat.pow_le_pow_right (n := 2) (i := 32) (by decide) (by omega))), Nat.testBit_lt_two_pow (Nat.lt_of_lt_of_le hlt (Nat.pow_le_pow_right (by decide) (by omega)))]
  · rw [if_neg (by omega), (laidE_eq _ i hw).1]
    have hl2 := orN_lt _ i hw
    congr 1
    refine Nat.eq_of_testBit_eq fun j => ?_
    by_cases hj : j < 32
    · rw [wd_bit i _ 32 j hj, ← full_bit i k j 0 ho h1 hk hf hj (fun h => absurd h h14)]
      simp [h14]
    · rw [Nat.testBit_lt_two_pow (Nat.lt_of_lt_of_le hl2 (Nat.pow_le_pow_right (n := 2) (i := 32) (by decide) (by omega))), Nat.testBit_lt_two_pow (Nat.lt_of_lt_of_le hlt (Nat.pow_le_pow_right (by decide) (by omega)))]

def encV (i : I) : Value := if fitsI i then .tuple #[.int .u32 (laidV (rowAt i.op) i), .int .i64 0] else .tuple #[.int .u32 0, .int .i64 7]
theorem enc_call (i : I) (h : i.fit) (W : World) : Calls Try.prog 26 #[.agg i.cells] W fun e W' => e = .returned (encV i) ∧ Below W.heap.size W W' := by
  obtain ⟨n, hn⟩ := encode_gives i h
  exact (hn W).mono fun _ _ h => ⟨h.1, h.2.1⟩

theorem fits_row (i : I) (k : Nat) (ho : i.op = k) (h1 : 1 ≤ k) (hk : k < 48) : fitsI i = fitsB (rowOf k) i := by
  have hrow : rowAt i.op = rowOf k := by unfold rowAt; rw [ho, if_pos (by omega), Int.toNat_natCast]
  unfold fitsI
  rw [hrow, decide_eq_true (p := 1 ≤ i.op) (by omega), decide_eq_true (p := i.op ≤ 47) (by omega)]
  rfl
theorem fits_op (i : I) (h : fitsI i = true) : ∃ k : Nat, i.op = k ∧ 1 ≤ k ∧ k < 48 ∧ fitsB (rowOf k) i = true ∧ rowAt i.op = rowOf k := by
  have h' := h
  unfold fitsI at h'
  simp only [Bool.and_eq_true, decide_eq_true_eq] at h'
  obtain ⟨h1, h2, -⟩ := h'
  refine ⟨i.op.toNat, by omega, by omega, by omega, ?_, ?_⟩
  · rw [← fits_row i i.op.toNat (by omega) (by omega) (by omega)]; exact h
  · unfold rowAt; rw [if_pos ⟨h1, h2⟩]
theorem hit_eq (k w : Nat) (h1 : 1 ≤ k) (hk : k < 48) (hw : w < 4294967296) : hitC k w = hitR k w := by
  unfold hitC hitR
  rw [as_eq k w hk h1 hw, ← fits_eq, fits_row (asR k w) k rfl h1 hk]
  cases hf : fitsB (rowOf k) (asR k w)
  · rfl
  · rw [word_eq (asR k w) k rfl h1 hk hf, Bool.true_and, Bool.true_and, Bool.eq_iff_iff, beq_iff_eq, beq_iff_eq]
    exact Int.ofNat_inj
theorem find_same (p q : Nat → Bool) : ∀ l : List Nat, (∀ x ∈ l, p x = q x) → l.find? p = l.find? q
  | [], _ => rfl
  | a :: l, h => by
    rw [List.find?_cons, List.find?_cons, h a (by simp), find_same p q l fun x hx => h x (by simp [hx])]
theorem dec_fixed : ∀ p ∈ fixedTab, decC p.2 = (decR p.2).map fun k => asR k p.2 := by
  intro p hp
  simp only [fixedTab, List.mem_cons, List.not_mem_nil, or_false] at hp
  rcases hp with rfl | rfl | rfl | rfl <;> kernel_rfl
theorem dec_eq (w : Nat) (hw : w < 4294967296) : decC w = (decR w).map fun k => asR k w := by
  cases hf : fixedTab.find? (fun p => p.2 == w) with
  | some p =>
    have h1 := List.mem_of_find?_eq_some hf
    have h2 := List.find?_some hf
    simp only [beq_iff_eq] at h2
    rw [← h2]
    exact dec_fixed p h1
  | none =>
    unfold decC decR
    rw [hf]
    simp only
    rw [find_same (fun k => decide (1 ≤ k) && hitC k w) (fun k => decide (1 ≤ k) && hitR k w) _ fun x hx => ?_]
    · cases hd : (List.range 48).find? fun k => decide (1 ≤ k) && hitR k w with
      | none => rfl
      | some k =>
        have h1 := List.mem_of_find?_eq_some hd
        have h2 := List.find?_some hd
        simp only [List.mem_range, Bool.and_eq_true, decide_eq_true_eq] at h1 h2
        simp only [Option.map]
        rw [as_eq k w h1 h2.1 hw]
    · simp only [List.mem_range] at hx
      by_cases h1 : 1 ≤ x
      · simp only [hit_eq x w h1 hx hw]
      · simp [h1]
/-- The word of an instruction that fits. -/
def wordI (i : I) : Nat := wdT i (patL i.op.toNat) 32
theorem wordI_lt (i : I) : wordI i < 4294967296 := wdT_lt i _ 32
theorem wordI_eq (i : I) (k : Nat) (ho : i.op = k) : wordI i = wdT i (patL k) 32 := by unfold wordI; rw [ho, Int.toNat_natCast]
theorem enc_fit (i : I) (h : fitsI i = true) : encV i = .tuple #[.int .u32 (wordI i : Nat), .int .i64 0] := by
  obtain ⟨k, ho, h1, hk, hf, hr⟩ := fits_op i h
  unfold encV
  rw [if_pos h, hr, word_eq i k ho h1 hk hf, wordI_eq i k ho]
theorem enc_not (i : I) (h : fitsI i = false) : encV i = .tuple #[.int .u32 0, .int .i64 7] := by
  unfold encV; rw [h]; rfl
theorem cdec_hit (w k : Nat) (hw : w < 4294967296) (h : decR w = some k) : cdecV w = .tuple #[.agg (asR k w).cells, .int .i64 0] := by
  unfold cdecV; rw [dec_eq w hw, h]; rfl
theorem cdec_none (w : Nat) (hw : w < 4294967296) (h : decR w = none) : cdecV w = .tuple #[.agg zeroCells, .int .i64 7] := by
  unfold cdecV; rw [dec_eq w hw, h]; rfl
theorem decR_some (w k : Nat) (h : decR w = some k) : 1 ≤ k ∧ k < 48 ∧ hitR k w = true := by
  have h1 := List.mem_of_find?_eq_some h
  have h2 := List.find?_some h
  simp only [List.mem_range, Bool.and_eq_true, decide_eq_true_eq] at h1 h2
  exact ⟨h2.1, h1, h2.2⟩
/-- An instruction that is decoded fits, and the word is its word. -/
theorem hit_word (w k : Nat) (h : hitR k w = true) : fitsI (asR k w) = true ∧ wordI (asR k w) = w := by
  unfold hitR at h
  simp only [Bool.and_eq_true, beq_iff_eq] at h
  refine ⟨by rw [fits_eq]; exact h.1, ?_⟩
  rw [wordI_eq (asR k w) k rfl]; exact h.2

/-- A field's letter: it stands just at the field's bits, in order. -/
def ordOk (l : List Nat) (c pos width : Nat) : Bool :=
  blockOk l c pos width && ((List.range 32).all fun j => !(decide (pos ≤ j) && decide (j < pos + width)) || (bh l c (31 - j) j == j - pos))
theorem rv_val (i : I) (k c pos width : Nat) (hc : 57 < c) (h : ordOk (patL k) c pos width = true) : rv k c (wdT i (patL k) 32) = ((valV i c) % 18446744073709551616).toNat % 2 ^ width := by
  simp only [ordOk, Bool.and_eq_true, List.all_eq_true, List.mem_range, Bool.or_eq_true, Bool.not_eq_true', Bool.and_eq_false_imp, decide_eq_true_eq, decide_eq_false_iff_not, beq_iff_eq] at h
  obtain ⟨hb, ho⟩ := h
  have hb' := hb
  simp only [blockOk, Bool.and_eq_true, decide_eq_true_eq, List.all_eq_true, List.mem_range] at hb'
  obtain ⟨hp, hl⟩ := hb'
  unfold rv
  rw [rd_block _ _ c pos width hb]
  refine Nat.eq_of_testBit_eq fun m => ?_
  rw [Nat.testBit_mod_two_pow, Nat.testBit_mod_two_pow]
  by_cases hm : m < width
  · have hj : pos + m < 32 := by omega
    have e1 : (patL k).getD (31 - (pos + m)) 0 = c := (hl (31 - (pos + m)) (by omega)).2 (by omega)
    have e2 := wd_bit i (patL k) 32 (pos + m) hj
    rw [bit_form i (patL k) (pos + m) hj, e1, if_neg (by omega), if_pos hc] at e2
    have e3 : bh (patL k) c (31 - (pos + m)) (pos + m) = m := by
      rcases ho (pos + m) hj with h | h
      · exact absurd (show pos + m < pos + width by omega) (h (by omega))
      · omega
    rw [e3] at e2
    rw [Nat.testBit_div_two_pow, Nat.add_comm m pos, e2]
  · simp [hm]
def plainOk (f : Fld) : Bool := decide (f.width ≤ 26) && (decide (f.step = 0) || decide (f.step = 1) && (decide (f.lo = 0) && decide (f.hi < 2 ^ f.width)))
def backOk (k : Nat) : Bool :=
  let r := rowOf k
  ordOk (patL k) 100 r.f0.pos r.f0.width && (ordOk (patL k) 110 r.f1.pos r.f1.width && (ordOk (patL k) 109 r.f2.pos r.f2.width &&
  ((k == 14 || ordOk (patL k) 105 r.f3.pos r.f3.width) && ((k == 17 || ordOk (patL k) 99 r.f4.pos r.f4.width) &&
  (plainOk r.f0 && (plainOk r.f1 && (plainOk r.f2 && ((k == 14 || (decide (18 ≤ k) && decide (k ≤ 23) || plainOk r.f3)) && plainOk r.f4))))))))
theorem tabBack : ∀ k : Nat, k < 48 → 1 ≤ k → backOk k = true := by decide +kernel
theorem tabBack2 : ordOk (patL 17) 107 12 4 = true ∧ ordOk (patL 14) 115 10 6 = true := by decide +kernel
theorem plain_back (f : Fld) (v : Int) (h : plainOk f = true) (hin : inB f v = true) : ((((v % 18446744073709551616).toNat % 2 ^ f.width : Nat)) : Int) = v := by
  unfold inB at hin
  unfold plainOk at h
  simp only [Bool.and_eq_true, Bool.or_eq_true, decide_eq_true_eq] at h
  obtain ⟨h26, h⟩ := h
  by_cases hs : f.step = 0
  · rw [if_pos hs, beq_iff_eq] at hin
    subst hin
    simp
  · rw [if_neg hs] at hin
    simp only [Bool.and_eq_true, decide_eq_true_eq, beq_iff_eq] at hin
    rcases h with h | ⟨-, h2, h3⟩
    · exact absurd h hs
    obtain ⟨h4, h5, -⟩ := hin
    have e : ((2 ^ f.width : Nat) : Int) = 2 ^ f.width := by simp
    rw [← e] at h3
    have : 2 ^ f.width ≤ 2 ^ 26 := Nat.pow_le_pow_right (by decide) h26
    generalize 2 ^ f.width = p at *
    have e2 : (v % 18446744073709551616).toNat = v.toNat := by omega
    rw [e2, Nat.mod_eq_of_lt (by omega)]
    omega
theorem cond_back : ∀ v : Nat, v < 14 → IntKind.i64.wrap (IntKind.i64.wrap ((((v ^^^ 1) % 2 ^ 4 : Nat) : Int) + 1) - IntKind.i64.wrap (2 * (((v ^^^ 1) % 2 ^ 4 : Nat) : Int).tmod 2)) = v := by decide +kernel
theorem near_back (v : Int) (n : Nat) (hn : n < 31) (h1 : -((2 ^ n : Nat) : Int) ≤ v) (h2 : v < ((2 ^ n : Nat) : Int)) :
    (if ((2 ^ n : Nat) : Int) ≤ (((v % 18446744073709551616).toNat % (2 ^ n + 2 ^ n) : Nat) : Int) then IntKind.i64.wrap ((((v % 18446744073709551616).toNat % (2 ^ n + 2 ^ n) : Nat) : Int) - ((2 ^ n + 2 ^ n : Nat) : Int)) else (((v % 18446744073709551616).toNat % (2 ^ n + 2 ^ n) : Nat) : Int)) = v := by
  have h32 : 2 ^ n ≤ 2 ^ 31 := Nat.pow_le_pow_right (by decide) (by omega)
  have hdvd : 18446744073709551616 % (2 ^ n + 2 ^ n) = 0 := by
    rw [← Nat.mul_two, ← Nat.pow_succ]
    exact Nat.mod_eq_zero_of_dvd (show 2 ^ (n + 1) ∣ 2 ^ 64 from Nat.pow_dvd_pow 2 (by omega))
  generalize 2 ^ n = p at *
  by_cases hv : 0 ≤ v
  · have e : (v % 18446744073709551616).toNat = v.toNat := by omega
    rw [e, Nat.mod_eq_of_lt (by omega), if_neg (by omega)]
    omega
  · have e : (v % 18446744073709551616).toNat = 18446744073709551616 - (-v).toNat := by omega
    obtain ⟨m, hm⟩ := Nat.dvd_of_mod_eq_zero hdvd
    have hm1 : 1 ≤ m := by
      rcases m with _ | m
      · simp at hm
      · omega
    obtain ⟨m', rfl⟩ : ∃ m', m = m' + 1 := ⟨m - 1, by omega⟩
    have e2 : 18446744073709551616 - (-v).toNat = (p + p - (-v).toNat) + (p + p) * m' := by
      rw [Nat.mul_add] at hm; omega
    rw [e, e2, Nat.add_mul_mod_self_left, Nat.mod_eq_of_lt (by omega), if_pos (by omega), IntWalk.i64_in _ (by omega)]
    omega
theorem in_imm (i : I) (k : Nat) (hf : fitsB (rowOf k) i = true) : inB (rowOf k).f0 i.rd = true ∧ inB (rowOf k).f1 i.rn = true ∧ inB (rowOf k).f2 i.rm = true ∧ inB (rowOf k).f3 i.imm = true ∧ inB (rowOf k).f4 i.cond = true := by
  unfold fitsB at hf
  simp only [Bool.and_eq_true] at hf
  exact ⟨hf.1, hf.2.1, hf.2.2.1, hf.2.2.2.1, hf.2.2.2.2.1⟩
theorem val_imm (i : I) (h : ¬ (i.op = 22 ∨ i.op = 23)) : valV i 105 = i.imm := by
  unfold valV; simp [h]
theorem imm_back (i : I) (k : Nat) (ho : i.op = k) (h1 : 1 ≤ k) (hk : k < 48) (hf : fitsB (rowOf k) i = true) : immR k (wdT i (patL k) 32) = i.imm := by
  have tb := tabBack k hk h1
  unfold backOk at tb
  simp only [Bool.and_eq_true, Bool.or_eq_true, beq_iff_eq, decide_eq_true_eq] at tb
  obtain ⟨-, -, -, o3, -, -, -, -, p3, -⟩ := tb
  obtain ⟨-, -, -, hin, -⟩ := in_imm i k hf
  unfold immR
  by_cases h14 : k = 14
  · subst h14
    obtain ⟨n, e, e1, e2⟩ := fits_imm i ho hf
    rw [if_pos rfl, rv_val i 14 115 10 6 (by decide) tabBack2.2]
    have e4 : valV i 115 = ((63 - n : Nat) : Int) := by
      show IntKind.i64.wrap (63 - i.imm) = _
      rw [e, IntWalk.i64_in _ (by omega)]; omega
    have e5 : (((63 - n : Nat) : Int) % 18446744073709551616).toNat = 63 - n := by omega
    rw [e4, e5, Nat.mod_eq_of_lt (show 63 - n < 2 ^ 6 by omega), IntWalk.i64_in _ (by omega), e]
    omega
  rw [if_neg h14]
  have o3' : ordOk (patL k) 105 (rowOf k).f3.pos (rowOf k).f3.width = true := by
    rcases o3 with h | h
    · exact absurd h h14
    · exact h
  rw [rv_val i k 105 _ _ (by decide) o3']
  by_cases h22 : k = 22 ∨ k = 23
  · have er : (rowOf k).f3 = ⟨10, 12, 0, 32760, 8, false⟩ := by
      rcases h22 with rfl | rfl <;> rfl
    rw [er] at hin ⊢
    simp [inB] at hin
    have ev : valV i 105 = IntKind.i64.wrap (i.imm.tdiv 8) := by
      have : i.op = 22 ∨ i.op = 23 := by omega
      unfold valV; simp [this]
    rw [if_neg (by omega), if_neg (by omega), if_pos h22, ev]
    obtain ⟨h5, h6, h7⟩ := hin
    generalize i.imm = v at *
    obtain ⟨n, rfl⟩ := Int.eq_ofNat_of_zero_le h5
    have et : ((n : Int).tdiv 8) = ((n / 8 : Nat) : Int) := by
      rw [Int.tdiv_eq_ediv_of_nonneg (by omega)]; rfl
    have et2 : ((n : Int).tmod 8) = ((n % 8 : Nat) : Int) := by
      rw [Int.tmod_eq_emod_of_nonneg (by omega)]; rfl
    rw [et, IntWalk.i64_in ((n / 8 : Nat) : Int) (by omega)]
    have e5 : (((n / 8 : Nat) : Int) % 18446744073709551616).toNat = n / 8 := by omega
    simp only
    rw [e5, Nat.mod_eq_of_lt (show n / 8 < 2 ^ 12 by omega), IntWalk.i64_in _ (by omega)]
    omega
  have ev : valV i 105 = i.imm := val_imm i (by omega)
  rw [ev]
  by_cases h18 : k = 18
  · subst h18
    rw [if_pos rfl]
    simp [inB, rowOf] at hin
    exact near_back i.imm 25 (by decide) (by show -33554432 ≤ _; exact hin.1) (by show _ < (33554432 : Int); omega)
  rw [if_neg h18]
  by_cases h19 : 19 ≤ k ∧ k ≤ 21
  · have er : (rowOf k).f3 = ⟨5, 19, -262144, 262143, 1, false⟩ := by
      rcases (show k = 19 ∨ k = 20 ∨ k = 21 by omega) with rfl | rfl | rfl <;> rfl
    rw [if_pos h19]
    rw [er] at hin ⊢
    simp [inB] at hin
    exact near_back i.imm 18 (by decide) (by show -262144 ≤ _; exact hin.1) (by show _ < (262144 : Int); omega)
  rw [if_neg h19, if_neg h22]
  rcases p3 with h | h | h
  · omega
  · omega
  · exact plain_back _ _ h hin
theorem cond_back2 (i : I) (k : Nat) (h1 : 1 ≤ k) (hk : k < 48) (hf : fitsB (rowOf k) i = true) : condR k (wdT i (patL k) 32) = i.cond := by
  have tb := tabBack k hk h1
  unfold backOk at tb
  simp only [Bool.and_eq_true, Bool.or_eq_true, beq_iff_eq, decide_eq_true_eq] at tb
  obtain ⟨-, -, -, -, o4, -, -, -, -, p4⟩ := tb
  obtain ⟨-, -, -, -, hin⟩ := in_imm i k hf
  unfold condR
  by_cases h17 : k = 17
  · subst h17
    obtain ⟨v, hv, hv2⟩ := fits_cond i hf
    rw [if_pos rfl, rv_val i 17 107 12 4 (by decide) tabBack2.1]
    have e4 : valV i 107 = if (v : Int).tmod 2 = 0 then IntKind.i64.wrap ((v : Int) + 1) else IntKind.i64.wrap ((v : Int) - 1) := by rw [← hv]; rfl
    rw [e4, cond_turned v hv2, hv]
    exact cond_back v hv2
  rw [if_neg h17]
  have o4' : ordOk (patL k) 99 (rowOf k).f4.pos (rowOf k).f4.width = true := by
    rcases o4 with h | h
    · exact absurd h h17
    · exact h
  rw [rv_val i k 99 _ _ (by decide) o4']
  exact plain_back _ _ p4 hin
theorem as_back (i : I) (k : Nat) (ho : i.op = k) (h1 : 1 ≤ k) (hk : k < 48) (hf : fitsB (rowOf k) i = true) : asR k (wdT i (patL k) 32) = i := by
  have e3 := imm_back i k ho h1 hk hf
  have e4 := cond_back2 i k h1 hk hf
  have tb := tabBack k hk h1
  unfold backOk at tb
  simp only [Bool.and_eq_true, Bool.or_eq_true, beq_iff_eq, decide_eq_true_eq] at tb
  obtain ⟨o0, o1, o2, -, -, p0, p1, p2, -, -⟩ := tb
  obtain ⟨i0, i1, i2, -, -⟩ := in_imm i k hf
  have r0 := plain_back _ _ p0 i0
  have r1 := plain_back _ _ p1 i1
  have r2 := plain_back _ _ p2 i2
  unfold asR asK
  rw [e3, e4, rv_val i k 100 _ _ (by decide) o0, rv_val i k 110 _ _ (by decide) o1, rv_val i k 109 _ _ (by decide) o2]
  obtain ⟨op, rd, rn, rm, imm, cond⟩ := i
  simp only [valV] at *
  simp only [if_true, if_false, ho, Nat.reduceEqDiff] at *
  rw [r0, r1, r2]
def conj (k m j : Nat) : Bool := decide ((patL k).getD (31 - j) 0 = 48) && decide ((patL m).getD (31 - j) 0 = 49) || decide ((patL k).getD (31 - j) 0 = 49) && decide ((patL m).getD (31 - j) 0 = 48)
def apartOk (k m : Nat) : Bool := k == m || (k == 14 && m == 15 || (k == 15 && m == 14 || (List.range 32).any fun j => conj k m j))
theorem tabApart : ∀ k : Nat, k < 48 → 1 ≤ k → ∀ m : Nat, m < 48 → 1 ≤ m → apartOk k m = true := by decide +kernel
theorem bit_1 (i : I) (k j : Nat) (hj : j < 32) (h : (patL k).getD (31 - j) 0 = 49) : (wdT i (patL k) 32).testBit j = true := by
  rw [wd_bit i _ 32 j hj, bit_form i _ j hj, if_pos h]
theorem bit_0 (i : I) (k j : Nat) (hj : j < 32) (h : (patL k).getD (31 - j) 0 = 48) : (wdT i (patL k) 32).testBit j = false := by
  rw [wd_bit i _ 32 j hj, bit_form i _ j hj, if_neg (by omega), if_neg (by omega)]
theorem tab15 : ∀ j : Nat, j < 16 → 10 ≤ j → (patL 15).getD (31 - j) 0 = 49 := by decide +kernel
theorem apart_14 (i m : I) (ho : i.op = 14) (hf : fitsB (rowOf 14) i = true) (he : wdT i (patL 14) 32 = wdT m (patL 15) 32) : False := by
  obtain ⟨n, e, e1, e2⟩ := fits_imm i ho hf
  have hr := rv_val i 14 115 10 6 (by decide) tabBack2.2
  have hb : rv 14 115 (wdT i (patL 14) 32) = wdT i (patL 14) 32 / 2 ^ 10 % 2 ^ 6 := rd_block _ _ 115 10 6 tabS.2.2.2.2.2.2.2
  have e4 : valV i 115 = ((63 - n : Nat) : Int) := by
    show IntKind.i64.wrap (63 - i.imm) = _
    rw [e, IntWalk.i64_in _ (by omega)]; omega
  have e5 : (((63 - n : Nat) : Int) % 18446744073709551616).toNat = 63 - n := by omega
  rw [hb, e4, e5, he] at hr
  have t10 := bit_1 m 15 10 (by decide) (tab15 10 (by decide) (by decide))
  have t11 := bit_1 m 15 11 (by decide) (tab15 11 (by decide) (by decide))
  have t12 := bit_1 m 15 12 (by decide) (tab15 12 (by decide) (by decide))
  have t13 := bit_1 m 15 13 (by decide) (tab15 13 (by decide) (by decide))
  have t14 := bit_1 m 15 14 (by decide) (tab15 14 (by decide) (by decide))
  have t15 := bit_1 m 15 15 (by decide) (tab15 15 (by decide) (by decide))
  rw [Nat.testBit_eq_decide_div_mod_eq, decide_eq_true_eq] at t10 t11 t12 t13 t14 t15
  generalize wdT m (patL 15) 32 = w at *
  omega
theorem word_op (i m : I) (k l : Nat) (ho : i.op = k) (hm : m.op = l) (h1 : 1 ≤ k) (hk : k < 48) (h1' : 1 ≤ l) (hl : l < 48) (hf : fitsB (rowOf k) i = true) (hf' : fitsB (rowOf l) m = true) (he : wdT i (patL k) 32 = wdT m (patL l) 32) : k = l := by
  have t := tabApart k hk h1 l hl h1'
  simp only [apartOk, conj, Bool.or_eq_true, Bool.and_eq_true, beq_iff_eq, List.any_eq_true, List.mem_range, decide_eq_true_eq] at t
  rcases t with h | ⟨rfl, rfl⟩ | ⟨rfl, rfl⟩ | ⟨j, hj, ⟨a, b⟩ | ⟨a, b⟩⟩
  · exact h
  · exact (apart_14 i m ho hf he).elim
  · exact (apart_14 m i hm hf' he.symm).elim
  · have e1 := bit_0 i k j hj a
    have e2 := bit_1 m l j hj b
    rw [he, e2] at e1
    exact absurd e1 (by decide)
  · have e1 := bit_1 i k j hj a
    have e2 := bit_0 m l j hj b
    rw [he, e2] at e1
    exact absurd e1 (by decide)
/-- The word of an instruction is decoded to it. -/
theorem dec_word (i : I) (h : fitsI i = true) : ∃ k, decR (wordI i) = some k ∧ asR k (wordI i) = i := by
  obtain ⟨k, ho, h1, hk, hf, -⟩ := fits_op i h
  have ew := wordI_eq i k ho
  have eb := as_back i k ho h1 hk hf
  refine ⟨k, decR_hit _ k h1 hk ?_ fun j hj1 hj2 => ?_, by rw [ew, eb]⟩
  · unfold hitR
    rw [ew, eb, ← fits_eq, h]
    simp
  · cases hh : hitR j (wordI i) with
    | false => rfl
    | true =>
      obtain ⟨f1, f2⟩ := hit_word _ _ hh
      obtain ⟨l, ho', h1', hl, hf', -⟩ := fits_op _ f1
      have : l = j := by
        have : ((j : Nat) : Int) = (l : Int) := ho'
        omega
      subst this
      rw [wordI_eq (asR l (wordI i)) l ho'] at f2
      exact absurd (word_op i _ k l ho ho' h1 hk h1' hl hf hf' (ew.symm.trans f2.symm)) (Nat.ne_of_gt hj2)
theorem cdec_word (i : I) (h : fitsI i = true) : cdecV (wordI i) = .tuple #[.agg i.cells, .int .i64 0] := by
  obtain ⟨k, h1, h2⟩ := dec_word i h
  rw [cdec_hit _ k (wordI_lt i) h1, h2]
theorem word_inj (i j : I) (hi : fitsI i = true) (hj : fitsI j = true) (h : wordI i = wordI j) : i = j := by
  obtain ⟨k, h1, h2⟩ := dec_word i hi
  obtain ⟨l, h3, h4⟩ := dec_word j hj
  rw [h, h3] at h1
  obtain rfl := Option.some.inj h1
  rw [← h2, h, h4]

end Go.Proofs.Ytgaejhhipnpopaa.Cd
