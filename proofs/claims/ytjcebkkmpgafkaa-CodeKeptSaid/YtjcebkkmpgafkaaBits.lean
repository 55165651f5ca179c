/-
  The bit operations on numbers that fit. No program in sight.
-/
import Derived.WalkKit
import Derived.Test.YtjcebkkmpgafkaaSpec
namespace Go.Proofs.Ytjcebkkmpgafkaa
open Go Go.RowKit

theorem u32_of_nat (n : Nat) (h : n < 4294967296) : IntKind.u32.wrap (n : Int) = n := IntWalk.u32_in _ (by omega)
theorem i64_of_nat (n : Nat) (h : n < 9223372036854775808) : IntKind.i64.wrap (n : Int) = n := IntWalk.i64_in _ (by omega)

theorem hk32 : ∀ n : Int, 0 ≤ n → n < 2 ^ 32 → IntKind.u32.wrap n = n := fun n h0 h1 => IntWalk.u32_in _ (by omega)
theorem and32 (a b : Nat) (ha : a < 4294967296) (hb : b < 4294967296) : bits .and .u32 a b = ((a &&& b : Nat) : Int) := (bits_nat .u32 32 (by decide) hk32 a b ha hb).1
theorem or32 (a b : Nat) (ha : a < 4294967296) (hb : b < 4294967296) : bits .or .u32 a b = ((a ||| b : Nat) : Int) := (bits_nat .u32 32 (by decide) hk32 a b ha hb).2
theorem xor32 (a b : Nat) (ha : a < 4294967296) (hb : b < 4294967296) : bits .xor .u32 a b = ((a ^^^ b : Nat) : Int) := by
  have e1 : a % 2 ^ IntKind.u32.bits = a := Nat.mod_eq_of_lt ha
  have e2 : b % 2 ^ IntKind.u32.bits = b := Nat.mod_eq_of_lt hb
  simp only [bits, BitVec.ofInt_natCast, BitVec.toNat_xor, BitVec.toNat_ofNat, e1, e2]
  exact u32_of_nat _ (Nat.xor_lt_two_pow (n := 32) ha hb)
theorem xor64 (a b : Nat) (ha : a < 4294967296) (hb : b < 4294967296) : bits .xor .i64 a b = ((a ^^^ b : Nat) : Int) := by
  have e1 : a % 2 ^ IntKind.i64.bits = a := Nat.mod_eq_of_lt (Nat.lt_trans ha (by decide))
  have e2 : b % 2 ^ IntKind.i64.bits = b := Nat.mod_eq_of_lt (Nat.lt_trans hb (by decide))
  have h : a ^^^ b < 4294967296 := Nat.xor_lt_two_pow (n := 32) ha hb
  simp only [bits, BitVec.ofInt_natCast, BitVec.toNat_xor, BitVec.toNat_ofNat, e1, e2]
  exact i64_of_nat _ (by omega)

theorem pow_lt32 (b : Nat) (hb : b < 32) : 2 ^ b < 4294967296 := Nat.pow_lt_pow_right (a := 2) (by decide) hb
theorem mask_int (b : Nat) (hb : b < 32) : ((2 : Int) ^ b - 1) % 4294967296 = ((2 ^ b - 1 : Nat) : Int) := by
  have h1 := pow_lt32 b hb
  have h2 : 0 < 2 ^ b := Nat.two_pow_pos b
  have h3 : ((2 : Int) ^ b) = ((2 ^ b : Nat) : Int) := by simp
  rw [h3]; omega
theorem mask32 (x b : Nat) (hx : x < 4294967296) (hb : b < 32) : bits .and .u32 x (((2 : Int) ^ b - 1) % 4294967296) = ((x % 2 ^ b : Nat) : Int) := by
  have h1 := pow_lt32 b hb
  rw [mask_int b hb, and32 x _ hx (by omega), Nat.and_two_pow_sub_one_eq_mod]

/-- A field's bits. -/
def layN (f : Fld) (v : Int) : Nat :=
  if f.width = 0 then 0 else
  let x := (v.tdiv f.step % 4294967296).toNat % 2 ^ f.width
  (if f.turned then x ^^^ 1 else x) * 2 ^ f.pos % 4294967296

theorem layN_lt (f : Fld) (v : Int) : layN f v < 4294967296 := by
  unfold layN; split
  · decide
  · exact Nat.mod_lt _ (by decide)

/-- A field of a word. -/
def readN (f : Fld) (w : Nat) : Int :=
  if f.width = 0 then 0 else
  let x := (w / 2 ^ f.pos) % 2 ^ f.width
  let y : Nat := if f.turned then x ^^^ 1 else x
  let z : Int := if f.lo < 0 ∧ 2 ^ (f.width - 1) ≤ y then (y : Int) - 2 ^ f.width else y
  z * f.step

def inB (f : Fld) (v : Int) : Bool :=
  if f.step = 0 then v == 0 else decide (f.lo ≤ v) && (decide (v ≤ f.hi) && v.tmod f.step == 0)

def fitsB (r : Row) (i : I) : Bool :=
  inB r.f0 i.rd && (inB r.f1 i.rn && (inB r.f2 i.rm && (inB r.f3 i.imm && (inB r.f4 i.cond &&
    (if i.op = 14 then decide (1 ≤ i.imm) else if i.op = 28 ∨ i.op = 29 then i.rm != i.rd && i.rm != i.rn else true)))))

def laidN (r : Row) (i : I) : Nat :=
  let w := ((((r.word ||| layN r.f0 i.rd) ||| layN r.f1 i.rn) ||| layN r.f2 i.rm) ||| layN r.f3 i.imm) ||| layN r.f4 i.cond
  if i.op = 14 then w ||| (((64 - i.imm) % 4294967296).toNat * 65536 % 4294967296 ||| ((63 - i.imm) % 4294967296).toNat * 1024 % 4294967296) else w

def asI (r : Row) (op : Int) (w : Nat) : I :=
  ⟨op, readN r.f0 w, readN r.f1 w, readN r.f2 w, if op = 14 then 63 - ((w / 1024 % 64 : Nat) : Int) else readN r.f3 w, readN r.f4 w⟩

/-- Where the fields of a row may stand. -/
def Fld.good (f : Fld) : Bool := decide (f.pos < 32) && decide (f.width < 32) && (f.width == 0 || decide (1 ≤ f.step) && decide (f.step ≤ 8)) && decide (-2147483648 ≤ f.lo) && decide (f.lo ≤ 0) && decide (0 ≤ f.hi) && decide (f.hi ≤ 2147483647) && decide (0 ≤ f.step) && decide (f.step ≤ 8) && (!f.turned || f.width == 4)
def Row.good (r : Row) : Bool := decide (r.word < 4294967296) && r.f0.good && r.f1.good && r.f2.good && r.f3.good && r.f4.good
theorem rowOf_good : ∀ op, op < 48 → (rowOf op).good = true := by decide +kernel

end Go.Proofs.Ytjcebkkmpgafkaa
