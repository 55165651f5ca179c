/-
  Operations in a form that the kernel reckons quickly: the same runs.
-/
import Derived.Test.YtbgmkefehfjicaaEvL
namespace Go.Proofs.Ytbgmkefehfjicaa.Ex
open Go Go.RowKit

/-! ### Numbers -/

def kIx : IntKind → Nat
  | .i8 => 0 | .i16 => 1 | .i32 => 2 | .i64 => 3 | .u8 => 4 | .u16 => 5 | .u32 => 6 | .u64 => 7
def kMod : IntKind → Nat
  | .i8 => 256 | .i16 => 65536 | .i32 => 4294967296 | .i64 => 18446744073709551616 | .u8 => 256 | .u16 => 65536 | .u32 => 4294967296 | .u64 => 18446744073709551616
def kHalf : IntKind → Nat
  | .i8 => 128 | .i16 => 32768 | .i32 => 2147483648 | .i64 => 9223372036854775808 | .u8 => 256 | .u16 => 65536 | .u32 => 4294967296 | .u64 => 18446744073709551616
def kBits : IntKind → Nat
  | .i8 => 8 | .i16 => 16 | .i32 => 32 | .i64 => 64 | .u8 => 8 | .u16 => 16 | .u32 => 32 | .u64 => 64

theorem kIx_inj {a b : IntKind} (h : kIx a = kIx b) : a = b := by cases a <;> cases b <;> first | rfl | cases h
theorem kBits_eq (k : IntKind) : kBits k = k.bits := by cases k <;> rfl
theorem kMod_eq (k : IntKind) : kMod k = 2 ^ k.bits := by cases k <;> rfl
theorem kMod_pos (k : IntKind) : 0 < kMod k := by cases k <;> decide

def residQ (m : Nat) : Int → Nat
  | .ofNat n => Nat.mod n m
  | .negSucc n => Nat.sub (Nat.sub m 1) (Nat.mod n m)
def signQ (m h r : Nat) : Int := match Nat.ble h r with
  | false => .ofNat r
  | true => .negSucc (Nat.sub (Nat.sub m 1) r)
def wrapQ (k : IntKind) (n : Int) : Int := signQ (kMod k) (kHalf k) (residQ (kMod k) n)

theorem residQ_eq (m : Nat) (hm : 0 < m) (n : Int) : ((residQ m n : Nat) : Int) = n % (m : Int) := by
  cases n with
  | ofNat n => rfl
  | negSucc n =>
    show ((m - 1 - n % m : Nat) : Int) = _
    rw [Int.negSucc_emod _ (by omega)]
    have := Nat.mod_lt n hm
    have h2 : ((n % m : Nat) : Int) = (n : Int) % (m : Int) := by simp
    omega

theorem residQ_lt (m : Nat) (hm : 0 < m) (n : Int) : residQ m n < m := by
  have h := residQ_eq m hm n
  have := Int.emod_lt_of_pos n (show (0 : Int) < m by omega)
  omega

theorem wrapQ_eq (k : IntKind) (n : Int) : wrapQ k n = k.wrap n := by
  have h := residQ_eq (kMod k) (kMod_pos k) n
  have hlt := residQ_lt (kMod k) (kMod_pos k) n
  unfold wrapQ signQ
  generalize hr : residQ (kMod k) n = r at *
  unfold IntKind.wrap
  have hp : ((2 : Int) ^ k.bits) = (kMod k : Int) := by rw [kMod_eq]; simp
  simp only [hp, ← h]
  have hc : (k.signed && decide ((r : Int) ≥ (2 : Int) ^ (k.bits - 1))) = Nat.ble (kHalf k) r := by
    rw [Bool.eq_iff_iff, Nat.ble_eq]
    cases k <;> simp [IntKind.signed, IntKind.bits, kHalf, kMod] at hlt ⊢ <;> omega
  rw [hc]
  have hpos := kMod_pos k
  cases Nat.ble (kHalf k) r with
  | false => rfl
  | true =>
    show Int.negSucc (kMod k - 1 - r) = (r : Int) - (kMod k : Int)
    omega

def addQ : Int → Int → Int
  | .ofNat a, .ofNat b => .ofNat (Nat.add a b)
  | a, b => Int.add a b
theorem addQ_eq (a b : Int) : addQ a b = a + b := by cases a <;> cases b <;> rfl
def subQ (a b : Int) : Int := Int.sub a b
def subN (a b : Nat) : Int := match Nat.ble b a with
  | true => .ofNat (Nat.sub a b)
  | false => .negSucc (Nat.sub (Nat.sub b a) 1)
def subQ' : Int → Int → Int
  | .ofNat a, .ofNat b => subN a b
  | a, b => Int.sub a b
theorem subQ_eq (a b : Int) : subQ' a b = a - b := by
  cases a with
  | negSucc a => rfl
  | ofNat a =>
    cases b with
    | negSucc b => rfl
    | ofNat b =>
      show subN a b = _
      unfold subN
      split
      · rename_i h
        have h := Nat.le_of_ble_eq_true h
        show ((a - b : Nat) : Int) = (a : Int) - (b : Int)
        omega
      · rename_i h
        have h : a < b := by
          rcases Nat.lt_or_ge a b with h1 | h1
          · exact h1
          · rw [Nat.ble_eq_true_of_le h1] at h; cases h
        show Int.negSucc (b - a - 1) = (a : Int) - (b : Int)
        omega
def mulQ : Int → Int → Int
  | .ofNat a, .ofNat b => .ofNat (Nat.mul a b)
  | a, b => Int.mul a b
theorem mulQ_eq (a b : Int) : mulQ a b = a * b := by cases a <;> cases b <;> rfl

def eqQ : Int → Int → Bool
  | .ofNat a, .ofNat b => Nat.beq a b
  | .negSucc a, .negSucc b => Nat.beq a b
  | _, _ => false
theorem beq_dec (a b : Nat) : Nat.beq a b = decide (a = b) := by
  cases h : Nat.beq a b with
  | true => simp [Nat.eq_of_beq_eq_true h]
  | false => have : a ≠ b := fun he => by rw [he, Nat.beq_refl] at h; cases h
             simp [this]
theorem eqQ_eq (a b : Int) : eqQ a b = (a == b) := by
  rw [Bool.eq_iff_iff, beq_iff_eq]
  cases a <;> cases b <;> simp [eqQ, beq_dec] <;> omega
def ltQ : Int → Int → Bool
  | .ofNat a, .ofNat b => Nat.blt a b
  | .negSucc a, .negSucc b => Nat.blt b a
  | .negSucc _, .ofNat _ => true
  | .ofNat _, .negSucc _ => false
theorem ltQ_eq (a b : Int) : ltQ a b = decide (a < b) := by
  rw [Bool.eq_iff_iff, decide_eq_true_eq]
  cases a <;> cases b <;> simp only [ltQ, Nat.blt_eq] <;> first | omega | (simp; done) | (simp; omega)
def leQ (a b : Int) : Bool := (ltQ b a).not
theorem leQ_eq (a b : Int) : leQ a b = decide (a ≤ b) := by
  unfold leQ; rw [ltQ_eq, Bool.eq_iff_iff]; simp

theorem residQ_bv (k : IntKind) (x : Int) : (BitVec.ofInt k.bits x).toNat = residQ (kMod k) x := by
  have h := residQ_eq (kMod k) (kMod_pos k) x
  rw [BitVec.toNat_ofInt]
  have hp : ((2 ^ k.bits : Nat) : Int) = (kMod k : Int) := by rw [kMod_eq]
  rw [hp, ← h]
  rfl

def andQ (k : IntKind) (x y : Int) : Int := wrapQ k (.ofNat (Nat.land (residQ (kMod k) x) (residQ (kMod k) y)))
def orQ (k : IntKind) (x y : Int) : Int := wrapQ k (.ofNat (Nat.lor (residQ (kMod k) x) (residQ (kMod k) y)))
def xorQ (k : IntKind) (x y : Int) : Int := wrapQ k (.ofNat (Nat.xor (residQ (kMod k) x) (residQ (kMod k) y)))
def andNotQ (k : IntKind) (x y : Int) : Int := wrapQ k (.ofNat (Nat.land (residQ (kMod k) x) (Nat.sub (Nat.sub (kMod k) 1) (residQ (kMod k) y))))

theorem andQ_eq (k : IntKind) (x y : Int) : andQ k x y = k.wrap (BitVec.ofInt k.bits x &&& BitVec.ofInt k.bits y).toNat := by
  rw [andQ, wrapQ_eq, BitVec.toNat_and, residQ_bv, residQ_bv]; rfl
theorem orQ_eq (k : IntKind) (x y : Int) : orQ k x y = k.wrap (BitVec.ofInt k.bits x ||| BitVec.ofInt k.bits y).toNat := by
  rw [orQ, wrapQ_eq, BitVec.toNat_or, residQ_bv, residQ_bv]; rfl
theorem xorQ_eq (k : IntKind) (x y : Int) : xorQ k x y = k.wrap (BitVec.ofInt k.bits x ^^^ BitVec.ofInt k.bits y).toNat := by
  rw [xorQ, wrapQ_eq, BitVec.toNat_xor, residQ_bv, residQ_bv]; rfl
theorem andNotQ_eq (k : IntKind) (x y : Int) : andNotQ k x y = k.wrap (BitVec.ofInt k.bits x &&& ~~~(BitVec.ofInt k.bits y)).toNat := by
  rw [andNotQ, wrapQ_eq, BitVec.toNat_and, BitVec.toNat_not, residQ_bv, residQ_bv, kMod_eq]; rfl

/-- The division by a number that is not 0. -/
def quoQ : Int → Nat → Int
  | .ofNat a, b => .ofNat (Nat.div a b)
  | a, b => Int.tdiv a (.ofNat b)
theorem quoQ_eq (a : Int) (b : Nat) : quoQ a b = a.tdiv (.ofNat b) := by cases a <;> rfl
def remQ : Int → Nat → Int
  | .ofNat a, b => .ofNat (Nat.mod a b)
  | a, b => Int.tmod a (.ofNat b)
theorem remQ_eq (a : Int) (b : Nat) : remQ a b = a.tmod (.ofNat b) := by cases a <;> rfl

def minQ (a b : Nat) : Nat := match Nat.ble a b with
  | true => a
  | false => b
theorem minQ_eq (a b : Nat) : minQ a b = min a b := by
  unfold minQ
  split
  · rename_i h; exact (Nat.min_eq_left (Nat.le_of_ble_eq_true h)).symm
  · rename_i h
    have : b ≤ a := by
      rcases Nat.le_total b a with h1 | h1
      · exact h1
      · rw [Nat.ble_eq_true_of_le h1] at h; cases h
    exact (Nat.min_eq_right this).symm
def shlQ (k : IntKind) (x : Int) (n : Nat) : Int := wrapQ k (mulQ x (.ofNat (Nat.pow 2 (minQ n (kBits k)))))
theorem shlQ_eq (k : IntKind) (x : Int) (n : Nat) : shlQ k x n = k.wrap (x * 2 ^ (min n k.bits)) := by
  rw [shlQ, wrapQ_eq, mulQ_eq, minQ_eq, kBits_eq]
  congr 2
def shrN : Int → Nat → Int
  | .ofNat a, d => .ofNat (Nat.div a d)
  | a, d => Int.fdiv a (.ofNat d)
def shrQ (k : IntKind) (x : Int) (n : Nat) : Int := shrN x (Nat.pow 2 (minQ n (kBits k)))
theorem shrQ_eq (k : IntKind) (x : Int) (n : Nat) : shrQ k x n = x.fdiv (2 ^ (min n k.bits)) := by
  have hp : ((2 : Int) ^ (min n k.bits)) = .ofNat (Nat.pow 2 (minQ n (kBits k))) := by
    rw [minQ_eq, kBits_eq]
    show _ = ((2 ^ (min n k.bits) : Nat) : Int)
    simp
  rw [hp, shrQ]
  generalize Nat.pow 2 (minQ n (kBits k)) = d
  cases x with
  | negSucc a => rfl
  | ofNat a => exact (Int.ofNat_fdiv a d)

/-! ### Two operands -/

def qv (v : Value) : Sem Next := .pure (.value v)

def binQ (op : BinOp) : IntKind → Int → Int → Option Value := match op with
  | .add => fun k a b => some (.int k (wrapQ k (addQ a b)))
  | .sub => fun k a b => some (.int k (wrapQ k (subQ' a b)))
  | .mul => fun k a b => some (.int k (wrapQ k (mulQ a b)))
  | .and => fun k a b => some (.int k (andQ k a b))
  | .or => fun k a b => some (.int k (orQ k a b))
  | .xor => fun k a b => some (.int k (xorQ k a b))
  | .andNot => fun k a b => some (.int k (andNotQ k a b))
  | .quo => fun k a b => match b with
    | .ofNat n => match Nat.beq n 0 with
      | true => none
      | false => some (.int k (wrapQ k (quoQ a n)))
    | _ => none
  | .rem => fun k a b => match b with
    | .ofNat n => match Nat.beq n 0 with
      | true => none
      | false => some (.int k (remQ a n))
    | _ => none
  | .eql => fun _ a b => some (.bool (eqQ a b))
  | .neq => fun _ a b => some (.bool (eqQ a b).not)
  | .lss => fun _ a b => some (.bool (ltQ a b))
  | .leq => fun _ a b => some (.bool (leQ a b))
  | .gtr => fun _ a b => some (.bool (ltQ b a))
  | .geq => fun _ a b => some (.bool (leQ b a))
  | _ => fun _ _ _ => none

def intQ (op : BinOp) : Value → Value → Option Value
  | .int k a, .int k' b => match Nat.beq (kIx k) (kIx k') with
    | true => binQ op k a b
    | false => none
  | _, _ => none

def shQ (f : IntKind → Int → Nat → Int) : Value → Value → Option Value
  | .int k a, .int _ (.ofNat n) => some (.int k (f k a n))
  | _, _ => none

def twoQ (op : BinOp) : Value → Value → Option Value := match op with
  | .shl => shQ shlQ
  | .shr => shQ shrQ
  | .add => intQ .add
  | .sub => intQ .sub
  | .mul => intQ .mul
  | .and => intQ .and
  | .or => intQ .or
  | .xor => intQ .xor
  | .andNot => intQ .andNot
  | .quo => intQ .quo
  | .rem => intQ .rem
  | .eql => intQ .eql
  | .neq => intQ .neq
  | .lss => intQ .lss
  | .leq => intQ .leq
  | .gtr => intQ .gtr
  | .geq => intQ .geq

theorem intQ_run {P : Program} {op : BinOp} (hop : op ≠ .shl ∧ op ≠ .shr) {t : TypeId} {x y : Operand} {a b v : Value} (h : intQ op a b = some v) (W : World) :
    (do eqGuard op t x y a b; binOp op t a b : Sem Value).run P W = .ok v W := by
  unfold intQ at h
  split at h
  · rename_i k a k' b
    split at h
    · rename_i hk
      have hk := kIx_inj (Nat.eq_of_beq_eq_true hk)
      subst hk
      have hg : ∀ f : Unit → Sem Value, (eqGuard op t x y (.int k a) (.int k b) >>= f).run P W = (f ()).run P W := fun f => by
        unfold eqGuard
        cases op <;> rfl
      rw [hg]
      cases op <;> simp only [binQ] at h <;> first
        | (cases h; done)
        | (simp only [Option.some.injEq] at h; subst h; simp [binOp, Op.intArith, Op.intBits, Op.intCmp, wrapQ_eq, addQ_eq, subQ_eq, mulQ_eq, andQ_eq, orQ_eq, xorQ_eq, andNotQ_eq, eqQ_eq, ltQ_eq, leQ_eq, bne]; done)
        | skip
      · split at h
        · split at h
          · cases h
          · rename_i n _ hn
            simp only [Option.some.injEq] at h; subst h
            have hn : n ≠ 0 := fun h0 => by rw [h0] at hn; cases hn
            simp [binOp, Op.intDiv, hn, wrapQ_eq, quoQ_eq]
        · cases h
      · split at h
        · split at h
          · cases h
          · rename_i n _ hn
            simp only [Option.some.injEq] at h; subst h
            have hn : n ≠ 0 := fun h0 => by rw [h0] at hn; cases hn
            simp [binOp, Op.intDiv, hn, remQ_eq]
        · cases h
    · cases h
  · cases h

theorem shQ_run {P : Program} {op : BinOp} {f : IntKind → Int → Nat → Int} (hf : (op = .shl ∧ f = shlQ) ∨ (op = .shr ∧ f = shrQ)) {t : TypeId} {x y : Operand} {a b v : Value} (h : shQ f a b = some v) (W : World) :
    (do eqGuard op t x y a b; binOp op t a b : Sem Value).run P W = .ok v W := by
  unfold shQ at h
  split at h
  · rename_i k a k' n
    simp only [Option.some.injEq] at h
    subst h
    have hn : ¬ ((n : Int) < 0) := by omega
    rcases hf with ⟨rfl, rfl⟩ | ⟨rfl, rfl⟩
    · simp [eqGuard, binOp, Op.shift, hn, shlQ_eq]
    · simp [eqGuard, binOp, Op.shift, hn, shrQ_eq]
  · cases h

theorem twoQ_run {P : Program} {op : BinOp} {t : TypeId} {x y : Operand} {a b v : Value} (h : twoQ op a b = some v) (W : World) :
    (do eqGuard op t x y a b; binOp op t a b : Sem Value).run P W = .ok v W := by
  cases op <;> first | exact shQ_run (.inl ⟨rfl, rfl⟩) h W | exact shQ_run (.inr ⟨rfl, rfl⟩) h W | exact intQ_run (by decide) h W

end Go.Proofs.Ytbgmkefehfjicaa.Ex
