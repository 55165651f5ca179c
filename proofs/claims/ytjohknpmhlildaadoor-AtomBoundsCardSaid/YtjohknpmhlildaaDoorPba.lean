/-
  ; Operations in a form that the kernel reckons quickly: the same runs;
-/
import Derived.WalkKit
import Derived.LoopN
import Derived.KernelRfl
import Derived.Laws.AppendOwn
import Derived.OrdersHeld
import Derived.Deep.AppendLies
import Derived.Laws.Cells
import Derived.Laws.StructEq
import Derived.Laws.Rows
import Derived.Laws.MakeOwn
import Derived.Laws.Small
import Derived.Laws.IdiomStrings
import Derived.LaidEqlPtr

noncomputable section
set_option linter.unusedVariables false
set_option linter.unusedSimpArgs false
namespace Go.Proofs.YtjohknpmhlildaaDoor.Ev
open Go Go.RowKit
variable (P : Program)
def one : Value → Bool
 | .agg _ | .tuple _ => false
 | _ => true
theorem cell_of {W : World} {a : Addr} {b : Nat} {c : Array Value} {t : TypeId} {f : Nat × Nat} (hb : a.block = b) (h : W.heap[b]? = some (.cells c t f)) (hs : a.spot = none) : W.cell? a = c[a.off]? := by
 subst hb
 simp [World.cell?, h, hs]
theorem frozen_of {W : World} {a : Addr} {b : Nat} {c : Array Value} {t : TypeId} {lo hi : Nat} (hb : a.block = b) (h : W.heap[b]? = some (.cells c t (lo, hi))) : W.frozen? a = (decide (lo ≤ a.off) && decide (a.off < hi)) := by
 subst hb
 simp [World.frozen?, h]
def calm : Exit → Bool
 | .normal | .exit _ | .ret => true
 | _ => false
variable {P}
end Go.Proofs.YtjohknpmhlildaaDoor.Ev
namespace Go.Proofs.YtjohknpmhlildaaDoor.Ex
open Go Go.RowKit
def kIx : IntKind → Nat
 | .i8 => 0 | .i16 => 1 | .i32 => 2 | .i64 => 3 | .u8 => 4 | .u16 => 5 | .u32 => 6 | .u64 => 7
def kMod : IntKind → Nat
 | .i8 => 256 | .i16 => 65536 | .i32 => 4294967296 | .i64 => 18446744073709551616 | .u8 => 256 | .u16 => 65536 | .u32 => 4294967296 | .u64 => 18446744073709551616
def kHalf : IntKind → Nat
 | .i8 => 128 | .i16 => 32768 | .i32 => 2147483648 | .i64 => 9223372036854775808 | .u8 => 256 | .u16 => 65536 | .u32 => 4294967296 | .u64 => 18446744073709551616
def kBits : IntKind → Nat
 | .i8 => 8 | .i16 => 16 | .i32 => 32 | .i64 => 64 | .u8 => 8 | .u16 => 16 | .u32 => 32 | .u64 => 64
theorem kIx_inj {a b : IntKind} (h : kIx a = kIx b) : a = b := by cases a <;> cases b <;> first | rfl | cases h
theorem kBits_eq (k : IntKind) : kBits k = k.bits := by cases k <;> rfl
theorem kMod_eq (k : IntKind) : kMod k = 2 ^ k.bits := by cases k <;> rfl
theorem kMod_pos (k : IntKind) : 0 < kMod k := by cases k <;> decide
def residQ (m : Nat) : Int → Nat
 | .ofNat n => Nat.mod n m
 | .negSucc n => Nat.sub (Nat.sub m 1) (Nat.mod n m)
def signQ (m h r : Nat) : Int := match Nat.ble h r with
 | false => .ofNat r
 | true => .negSucc (Nat.sub (Nat.sub m 1) r)
def wrapQ (k : IntKind) (n : Int) : Int := signQ (kMod k) (kHalf k) (residQ (kMod k) n)
theorem residQ_eq (m : Nat) (hm : 0 < m) (n : Int) : ((residQ m n : Nat) : Int) = n % (m : Int) := by
 cases n with
 | ofNat n => rfl
 | negSucc n =>
   show ((m - 1 - n % m : Nat) : Int) = _
   rw [Int.negSucc_emod _ (by omega)]
   have := Nat.mod_lt n hm
   have h2 : ((n % m : Nat) : Int) = (n : Int) % (m : Int) := by simp
   omega
theorem residQ_lt (m : Nat) (hm : 0 < m) (n : Int) : residQ m n < m := by
 have h := residQ_eq m hm n
 have := Int.emod_lt_of_pos n (show (0 : Int) < m by omega)
 omega
theorem wrapQ_eq (k : IntKind) (n : Int) : wrapQ k n = k.wrap n := by
 have h := residQ_eq (kMod k) (kMod_pos k) n
 have hlt := residQ_lt (kMod k) (kMod_pos k) n
 unfold wrapQ signQ
 generalize hr : residQ (kMod k) n = r at *
 unfold IntKind.wrap
 have hp : ((2 : Int) ^ k.bits) = (kMod k : Int) := by rw [kMod_eq]; simp
 simp only [hp, ← h]
 have hc : (k.signed && decide ((r : Int) ≥ (2 : Int) ^ (k.bits - 1))) = Nat.ble (kHalf k) r := by
  rw [Bool.eq_iff_iff, Nat.ble_eq]
  cases k <;> simp [IntKind.signed, IntKind.bits, kHalf, kMod] at hlt ⊢ <;> omega
 rw [hc]
 have hpos := kMod_pos k
 cases Nat.ble (kHalf k) r with
 | false => rfl
 | true =>
   show Int.negSucc (kMod k - 1 - r) = (r : Int) - (kMod k : Int)
   omega
def addQ : Int → Int → Int
 | .ofNat a, .ofNat b => .ofNat (Nat.add a b)
 | a, b => Int.add a b
theorem addQ_eq (a b : Int) : addQ a b = a + b := by cases a <;> cases b <;> rfl
def subN (a b : Nat) : Int := match Nat.ble b a with
 | true => .ofNat (Nat.sub a b)
 | false => .negSucc (Nat.sub (Nat.sub b a) 1)
def subQ' : Int → Int → Int
 | .ofNat a, .ofNat b => subN a b
 | a, b => Int.sub a b
theorem subQ_eq (a b : Int) : subQ' a b = a - b := by
 cases a with
 | negSucc a => rfl
 | ofNat a =>
   cases b with
   | negSucc b => rfl
   | ofNat b =>
     show subN a b = _
     unfold subN
     split
     ·rename_i h
      have h := Nat.le_of_ble_eq_true h
      show ((a - b : Nat) : Int) = (a : Int) - (b : Int)
      omega
     ·rename_i h
      have h : a < b := by
       rcases Nat.lt_or_ge a b with h1 | h1
       ·exact h1
       ·rw [Nat.ble_eq_true_of_le h1] at h; cases h
      show Int.negSucc (b - a - 1) = (a : Int) - (b : Int)
      omega
def mulQ : Int → Int → Int
 | .ofNat a, .ofNat b => .ofNat (Nat.mul a b)
 | a, b => Int.mul a b
theorem mulQ_eq (a b : Int) : mulQ a b = a * b := by cases a <;> cases b <;> rfl
def eqQ : Int → Int → Bool
 | .ofNat a, .ofNat b => Nat.beq a b
 | .negSucc a, .negSucc b => Nat.beq a b
 | _, _ => false
theorem beq_dec (a b : Nat) : Nat.beq a b = decide (a = b) := by
 cases h : Nat.beq a b with
 | true => simp [Nat.eq_of_beq_eq_true h]
 | false => have : a ≠ b := fun he => by rw [he, Nat.beq_refl] at h; cases h
            simp [this]
theorem eqQ_eq (a b : Int) : eqQ a b = (a == b) := by
 rw [Bool.eq_iff_iff, beq_iff_eq]
 cases a <;> cases b <;> simp [eqQ, beq_dec] <;> omega
def ltQ : Int → Int → Bool
 | .ofNat a, .ofNat b => Nat.blt a b
 | .negSucc a, .negSucc b => Nat.blt b a
 | .negSucc _, .ofNat _ => true
 | .ofNat _, .negSucc _ => false
theorem ltQ_eq (a b : Int) : ltQ a b = decide (a < b) := by
 rw [Bool.eq_iff_iff, decide_eq_true_eq]
 cases a <;> cases b <;> simp only [ltQ, Nat.blt_eq] <;> first | omega | (simp; done) | (simp; omega)
def leQ (a b : Int) : Bool := (ltQ b a).not
theorem leQ_eq (a b : Int) : leQ a b = decide (a ≤ b) := by
 unfold leQ; rw [ltQ_eq, Bool.eq_iff_iff]; simp
theorem residQ_bv (k : IntKind) (x : Int) : (BitVec.ofInt k.bits x).toNat = residQ (kMod k) x := by
 have h := residQ_eq (kMod k) (kMod_pos k) x
 rw [BitVec.toNat_ofInt]
 have hp : ((2 ^ k.bits : Nat) : Int) = (kMod k : Int) := by rw [kMod_eq]
 rw [hp, ← h]
 rfl
def andQ (k : IntKind) (x y : Int) : Int := wrapQ k (.ofNat (Nat.land (residQ (kMod k) x) (residQ (kMod k) y)))
def orQ (k : IntKind) (x y : Int) : Int := wrapQ k (.ofNat (Nat.lor (residQ (kMod k) x) (residQ (kMod k) y)))
def xorQ (k : IntKind) (x y : Int) : Int := wrapQ k (.ofNat (Nat.xor (residQ (kMod k) x) (residQ (kMod k) y)))
def andNotQ (k : IntKind) (x y : Int) : Int := wrapQ k (.ofNat (Nat.land (residQ (kMod k) x) (Nat.sub (Nat.sub (kMod k) 1) (residQ (kMod k) y))))
theorem andQ_eq (k : IntKind) (x y : Int) : andQ k x y = k.wrap (BitVec.ofInt k.bits x &&& BitVec.ofInt k.bits y).toNat := by
 rw [andQ, wrapQ_eq, BitVec.toNat_and, residQ_bv, residQ_bv]; rfl
theorem orQ_eq (k : IntKind) (x y : Int) : orQ k x y = k.wrap (BitVec.ofInt k.bits x ||| BitVec.ofInt k.bits y).toNat := by
 rw [orQ, wrapQ_eq, BitVec.toNat_or, residQ_bv, residQ_bv]; rfl
theorem xorQ_eq (k : IntKind) (x y : Int) : xorQ k x y = k.wrap (BitVec.ofInt k.bits x ^^^ BitVec.ofInt k.bits y).toNat := by
 rw [xorQ, wrapQ_eq, BitVec.toNat_xor, residQ_bv, residQ_bv]; rfl
theorem andNotQ_eq (k : IntKind) (x y : Int) : andNotQ k x y = k.wrap (BitVec.ofInt k.bits x &&& ~~~(BitVec.ofInt k.bits y)).toNat := by
 rw [andNotQ, wrapQ_eq, BitVec.toNat_and, BitVec.toNat_not, residQ_bv, residQ_bv, kMod_eq]; rfl
def quoQ : Int → Nat → Int
 | .ofNat a, b => .ofNat (Nat.div a b)
 | a, b => Int.tdiv a (.ofNat b)
theorem quoQ_eq (a : Int) (b : Nat) : quoQ a b = a.tdiv (.ofNat b) := by cases a <;> rfl
def remQ : Int → Nat → Int
 | .ofNat a, b => .ofNat (Nat.mod a b)
 | a, b => Int.tmod a (.ofNat b)
theorem remQ_eq (a : Int) (b : Nat) : remQ a b = a.tmod (.ofNat b) := by cases a <;> rfl
def minQ (a b : Nat) : Nat := match Nat.ble a b with
 | true => a
 | false => b
theorem minQ_eq (a b : Nat) : minQ a b = min a b := by
 unfold minQ
 split
 ·rename_i h; exact (Nat.min_eq_left (Nat.le_of_ble_eq_true h)).symm
 ·rename_i h
  have : b ≤ a := by
   rcases Nat.le_total b a with h1 | h1
   ·exact h1
   ·rw [Nat.ble_eq_true_of_le h1] at h; cases h
  exact (Nat.min_eq_right this).symm
def shlQ (k : IntKind) (x : Int) (n : Nat) : Int := wrapQ k (mulQ x (.ofNat (Nat.pow 2 (minQ n (kBits k)))))
theorem shlQ_eq (k : IntKind) (x : Int) (n : Nat) : shlQ k x n = k.wrap (x * 2 ^ (min n k.bits)) := by
 rw [shlQ, wrapQ_eq, mulQ_eq, minQ_eq, kBits_eq]
 congr 2
def shrN : Int → Nat → Int
 | .ofNat a, d => .ofNat (Nat.div a d)
 | a, d => Int.fdiv a (.ofNat d)
def shrQ (k : IntKind) (x : Int) (n : Nat) : Int := shrN x (Nat.pow 2 (minQ n (kBits k)))
theorem shrQ_eq (k : IntKind) (x : Int) (n : Nat) : shrQ k x n = x.fdiv (2 ^ (min n k.bits)) := by
 have hp : ((2 : Int) ^ (min n k.bits)) = .ofNat (Nat.pow 2 (minQ n (kBits k))) := by
  rw [minQ_eq, kBits_eq]
  show _ = ((2 ^ (min n k.bits) : Nat) : Int)
  simp
 rw [hp, shrQ]
 generalize Nat.pow 2 (minQ n (kBits k)) = d
 cases x with
 | negSucc a => rfl
 | ofNat a => exact (Int.ofNat_fdiv a d)
def binQ (op : BinOp) : IntKind → Int → Int → Option Value := match op with
 | .add => fun k a b => some (.int k (wrapQ k (addQ a b)))
 | .sub => fun k a b => some (.int k (wrapQ k (subQ' a b)))
 | .mul => fun k a b => some (.int k (wrapQ k (mulQ a b)))
 | .and => fun k a b => some (.int k (andQ k a b))
 | .or => fun k a b => some (.int k (orQ k a b))
 | .xor => fun k a b => some (.int k (xorQ k a b))
 | .andNot => fun k a b => some (.int k (andNotQ k a b))
 | .quo => fun k a b => match b with
   | .ofNat n => match Nat.beq n 0 with
     | true => none
     | false => some (.int k (wrapQ k (quoQ a n)))
   | _ => none
 | .rem => fun k a b => match b with
   | .ofNat n => match Nat.beq n 0 with
     | true => none
     | false => some (.int k (remQ a n))
   | _ => none
 | .eql => fun _ a b => some (.bool (eqQ a b))
 | .neq => fun _ a b => some (.bool (eqQ a b).not)
 | .lss => fun _ a b => some (.bool (ltQ a b))
 | .leq => fun _ a b => some (.bool (leQ a b))
 | .gtr => fun _ a b => some (.bool (ltQ b a))
 | .geq => fun _ a b => some (.bool (leQ b a))
 | _ => fun _ _ _ => none
def intQ (op : BinOp) : Value → Value → Option Value
 | .int k a, .int k' b => match Nat.beq (kIx k) (kIx k') with
   | true => binQ op k a b
   | false => none
 | _, _ => none
def shQ (f : IntKind → Int → Nat → Int) : Value → Value → Option Value
 | .int k a, .int _ (.ofNat n) => some (.int k (f k a n))
 | _, _ => none
def twoQ (op : BinOp) : Value → Value → Option Value := match op with
 | .shl => shQ shlQ
 | .shr => shQ shrQ
 | .add => intQ .add
 | .sub => intQ .sub
 | .mul => intQ .mul
 | .and => intQ .and
 | .or => intQ .or
 | .xor => intQ .xor
 | .andNot => intQ .andNot
 | .quo => intQ .quo
 | .rem => intQ .rem
 | .eql => intQ .eql
 | .neq => intQ .neq
 | .lss => intQ .lss
 | .leq => intQ .leq
 | .gtr => intQ .gtr
 | .geq => intQ .geq
theorem intQ_run {P : Program} {op : BinOp} (hop : op ≠ .shl ∧ op ≠ .shr) {t : TypeId} {x y : Operand} {a b v : Value} (h : intQ op a b = some v) (W : World) :
  (do eqGuard op t x y a b; binOp op t a b : Sem Value).run P W = .ok v W := by
 unfold intQ at h
 split at h
 ·rename_i k a k' b
  split at h
  ·rename_i hk
   have hk := kIx_inj (Nat.eq_of_beq_eq_true hk)
   subst hk
   have hg : ∀ f : Unit → Sem Value, (eqGuard op t x y (.int k a) (.int k b) >>= f).run P W = (f ()).run P W := fun f => by
    unfold eqGuard
    cases op <;> rfl
   rw [hg]
   cases op <;> simp only [binQ] at h <;> first
    | (cases h; done)
    | (simp only [Option.some.injEq] at h; subst h; simp [binOp, Op.intArith, Op.intBits, Op.intCmp, wrapQ_eq, addQ_eq, subQ_eq, mulQ_eq, andQ_eq, orQ_eq, xorQ_eq, andNotQ_eq, eqQ_eq, ltQ_eq, leQ_eq, bne]; done)
    | skip
   ·split at h
    ·split at h
     ·cases h
     ·rename_i n _ hn
      simp only [Option.some.injEq] at h; subst h
      have hn : n ≠ 0 := fun h0 => by rw [h0] at hn; cases hn
      simp [binOp, Op.intDiv, hn, wrapQ_eq, quoQ_eq]
    ·cases h
   ·split at h
    ·split at h
     ·cases h
     ·rename_i n _ hn
      simp only [Option.some.injEq] at h; subst h
      have hn : n ≠ 0 := fun h0 => by rw [h0] at hn; cases hn
      simp [binOp, Op.intDiv, hn, remQ_eq]
    ·cases h
  ·cases h
 ·cases h
theorem shQ_run {P : Program} {op : BinOp} {f : IntKind → Int → Nat → Int} (hf : (op = .shl ∧ f = shlQ) ∨ (op = .shr ∧ f = shrQ)) {t : TypeId} {x y : Operand} {a b v : Value} (h : shQ f a b = some v) (W : World) :
  (do eqGuard op t x y a b; binOp op t a b : Sem Value).run P W = .ok v W := by
 unfold shQ at h
 split at h
 ·rename_i k a k' n
  simp only [Option.some.injEq] at h
  subst h
  have hn : ¬ ((n : Int) < 0) := by omega
  rcases hf with ⟨rfl, rfl⟩ | ⟨rfl, rfl⟩
  ·simp [eqGuard, binOp, Op.shift, hn, shlQ_eq]
  ·simp [eqGuard, binOp, Op.shift, hn, shrQ_eq]
 ·cases h
theorem twoQ_run {P : Program} {op : BinOp} {t : TypeId} {x y : Operand} {a b v : Value} (h : twoQ op a b = some v) (W : World) :
  (do eqGuard op t x y a b; binOp op t a b : Sem Value).run P W = .ok v W := by
 cases op <;> first | exact shQ_run (.inl ⟨rfl, rfl⟩) h W | exact shQ_run (.inr ⟨rfl, rfl⟩) h W | exact intQ_run (by decide) h W
end Go.Proofs.YtjohknpmhlildaaDoor.Ex
namespace Go.Proofs.YtjohknpmhlildaaDoor.Sy
open Go Go.RowKit
structure F where
 n : Nat
 w : List (Nat × Value)
def getW (w : List (Nat × Value)) (t : Nat) : Value := @List.rec (Nat × Value) (fun _ => Value) undef (fun p _ ih => @Bool.rec (fun _ => Value) ih p.2 (Nat.beq p.1 t)) w
theorem getW_eq (p : Nat × Value) (r : List (Nat × Value)) (t : Nat) : getW (p :: r) t = bif Nat.beq p.1 t then p.2 else getW r t := by
 show @Bool.rec (fun _ => Value) (getW r t) p.2 (Nat.beq p.1 t) = _
 cases Nat.beq p.1 t <;> rfl
def F.get (f : F) (t : Nat) : Value := getW f.w t
def F.put (f : F) (d : Option Tmp) (v : Value) : F := match d with
 | none => f
 | some d => match f with
   | ⟨n, w⟩ => match Nat.blt d n with
     | true => ⟨n, (d, v) :: w⟩
     | false => ⟨n, w⟩
def F.eval (f : F) : Operand → Value
 | .tmp t => f.get t
 | .const v => v
 | .global g => .pointer (some ⟨g, 0, none⟩)
 | .func g => .func (.func g) #[] #[]
def F.yielded (f : F) (ops : Array Oper) (j : Nat) : Option Bool :=
 match ops.toList[j]? with
 | none => none
 | some o => match o.dst with
   | none => none
   | some t => match f.get t with
     | .bool b => some b
     | _ => none
def argsW : Nat → List Value → List (Nat × Value)
 | _, [] => []
 | i, v :: r => (i, v) :: argsW (i + 1) r
def F.init (args : Array Value) (n : Nat) : F := ⟨args.size + (n - args.size), argsW 0 args.toList⟩
structure RelF (f : F) (a : Act) : Prop where
 defers : a.defers = []
 size : a.tmps.size = f.n
 get : ∀ t, a.tmps.getD t undef = f.get t
theorem getW_cons (i : Nat) (v : Value) (r : List (Nat × Value)) (t : Nat) : getW ((i, v) :: r) t = if i = t then v else getW r t := by
 rw [getW_eq]
 by_cases h : i = t
 ·simp [h]
 ·have : Nat.beq i t = false := by cases hb : Nat.beq i t with
   | false => rfl
   | true => exact (h (Nat.eq_of_beq_eq_true hb)).elim
  simp [h, this]
theorem RelF.put {f : F} {a : Act} (h : RelF f a) (d : Option Tmp) (v : Value) : RelF (f.put d v) (a.put d v) := by
 cases d with
 | none => exact h
 | some d =>
   obtain ⟨fn, fw⟩ := f
   show RelF (match Nat.blt d fn with
    | true => ⟨fn, (d, v) :: fw⟩
    | false => ⟨fn, fw⟩) _
   unfold Act.put
   by_cases hd : d < fn
   ·have hb : Nat.blt d fn = true := by simpa using hd
    simp only [hb]
    refine ⟨h.defers, by simpa using h.size, fun t => ?_⟩
    show (a.tmps.setIfInBounds d v).getD t undef = getW ((d, v) :: fw) t
    rw [getW_cons]
    have hg := h.get t
    simp only [Array.getD_eq_getD_getElem?, Array.getElem?_setIfInBounds] at hg ⊢
    by_cases he : d = t
    ·have hs := h.size
     subst he
     rw [if_pos rfl, if_pos rfl, if_pos (by rw [hs]; exact hd)]
     rfl
    ·rw [if_neg he, if_neg he]
     exact hg
   ·have hb : Nat.blt d fn = false := by cases hb : Nat.blt d fn with
     | false => rfl
     | true => exact (hd (Nat.le_of_ble_eq_true hb)).elim
    simp only [hb]
    have hs := h.size
    have hnot : a.tmps.size ≤ d := by rw [hs]; exact Nat.le_of_not_lt hd
    simp only [Array.setIfInBounds_eq_of_size_le hnot]
    exact h
theorem RelF.eval {f : F} {a : Act} (h : RelF f a) : f.eval = a.eval := by
 funext x
 cases x with
 | tmp t => exact (h.get t).symm
 | _ => rfl
theorem RelF.yielded {f : F} {a : Act} (h : RelF f a) (ops : Array Oper) : f.yielded ops = yielded ops a.tmps := by
 funext j
 unfold F.yielded Go.yielded
 have e : ops[j]? = ops.toList[j]? := by simp
 rw [e]
 cases ops.toList[j]? with
 | none => rfl
 | some o =>
   simp only [Option.bind_some]
   cases o.dst with
   | none => rfl
   | some t =>
     simp only [Option.bind_some]
     have hg := h.get t
     rw [← hg]
     simp only [Array.getD_eq_getD_getElem?]
     cases a.tmps[t]? with
     | none => rfl
     | some v => cases v <;> rfl
theorem getW_args : ∀ (l : List Value) (i t : Nat), getW (argsW i l) t = if t < i then undef else l.getD (t - i) undef
 | [], i, t => by show undef = _; simp
 | v :: r, i, t => by
   simp only [argsW]
   rw [getW_cons, getW_args r (i + 1) t]
   by_cases h : i = t
   ·subst h; simp
   ·rw [if_neg h]
    by_cases h2 : t < i
    ·rw [if_pos h2, if_pos (by omega)]
    ·rw [if_neg h2, if_neg (by omega)]
     have : t - i = (t - (i + 1)) + 1 := by omega
     rw [this]
     simp
theorem RelF.init (args : Array Value) (n : Nat) : RelF (F.init args n) { tmps := args ++ Array.replicate (n - args.size) undef, defers := [] } := by
 refine ⟨rfl, by simp [F.init], fun t => ?_⟩
 show _ = getW (argsW 0 args.toList) t
 rw [getW_args]
 simp only [Nat.not_lt_zero, if_false, Nat.sub_zero, Array.getD_eq_getD_getElem?, Array.getElem?_append]
 by_cases h : t < args.size
 ·simp [h]
 ·have : args.toList[t]? = none := by simp; omega
  simp only [h, if_false, List.getD_eq_getElem?_getD, this]
  simp only [Array.getElem?_replicate]
  split <;> rfl
def resF (fn : Func) (g : Nat → Value) : Sem Value := do
 let vs ← fn.results.mapM fun
  | .tmp t => pure (g t)
  | .cell a t => do loadVar t (← asAddr (g a))
 pure (if h : vs.size = 1 then vs[0] else .tuple vs)
theorem resF_eq {f : F} {a : Act} (h : RelF f a) (fn : Func) : results fn a.tmps = resF fn f.get := by
 have : f.get = fun t => a.tmps.getD t undef := funext fun t => (h.get t).symm
 rw [this]
 rfl
theorem RelF.known {f : F} {a : Act} (h : RelF f a) (l : List (Nat × Value)) (hl : ∀ p ∈ l, f.get p.1 = p.2) : RelF ⟨f.n, l ++ f.w⟩ a := by
 refine ⟨h.defers, h.size, fun t => ?_⟩
 rw [h.get t]
 show getW f.w t = getW (l ++ f.w) t
 induction l with
 | nil => rfl
 | cons p l ih =>
   obtain ⟨i, v⟩ := p
   rw [List.cons_append, getW_cons]
   split
   ·rename_i hit
    subst hit
    exact hl (i, v) (by simp)
   ·exact ih fun q hq => hl q (by simp [hq])
theorem RelF.full (xs : Array Value) : RelF ⟨xs.size, argsW 0 xs.toList⟩ { tmps := xs, defers := [] } := by
 refine ⟨rfl, rfl, fun t => ?_⟩
 show _ = getW (argsW 0 xs.toList) t
 rw [getW_args]
 simp [Array.getD_eq_getD_getElem?]
structure Known (n : Nat) (l : List (Nat × Value)) (a : Act) : Prop where
 defers : a.defers = []
 size : a.tmps.size = n
 get : ∀ p ∈ l, a.tmps.getD p.1 undef = p.2
theorem Known.rel {n : Nat} {l : List (Nat × Value)} {a : Act} (h : Known n l a) : RelF ⟨n, l ++ argsW 0 a.tmps.toList⟩ a := by
 have h0 : RelF ⟨n, argsW 0 a.tmps.toList⟩ a := by
  have := RelF.full a.tmps
  obtain ⟨t, d⟩ := a
  have hd := h.defers
  have hs := h.size
  simp only at hd hs
  subst hd
  subst hs
  exact this
 exact h0.known l fun p hp => by rw [← h0.get]; exact h.get p hp
theorem Known.of {f : F} {a : Act} (h : RelF f a) (l : List (Nat × Value)) (hl : l.map (fun p => f.get p.1) = l.map (·.2)) : Known f.n l a :=
 ⟨h.defers, h.size, fun p hp => by rw [h.get]; exact List.map_inj_left.1 hl p hp⟩
theorem RelF.same {f : F} {a : Act} (h : RelF f a) {t : Nat} {v : Value} (hv : f.get t = v) : RelF (f.put (some t) v) a := by
 obtain ⟨n, w⟩ := f
 show RelF (match Nat.blt t n with
  | true => ⟨n, (t, v) :: w⟩
  | false => ⟨n, w⟩) _
 split
 ·refine ⟨h.defers, h.size, fun u => ?_⟩
  rw [h.get u]
  show getW w u = getW ((t, v) :: w) u
  rw [getW_cons]
  split
  ·rename_i hu
   subst hu
   exact hv
  ·rfl
 ·exact h
def nth {α : Type} (l : List α) : Nat → Option α := @List.rec α (fun _ => Nat → Option α) (fun _ => none) (fun a _ ih j => @Nat.rec (fun _ => Option α) (some a) (fun i _ => ih i) j) l
theorem nth_eq {α : Type} : ∀ (l : List α) (j : Nat), nth l j = l[j]?
 | [], _ => rfl
 | _ :: _, 0 => rfl
 | _ :: l, j + 1 => by
   show nth l j = _
   rw [nth_eq l j]
   simp
theorem mS.{u} {α : Type u} (a : α) : a ∈ [a] := List.mem_singleton_self a
theorem mC.{u} {α : Type u} {a : α} {l : List α} (y : α) (h : a ∈ l) : a ∈ y :: l := List.mem_cons_of_mem y h
theorem mH.{u} {α : Type u} {a : α} {l : List α} : a ∈ a :: l := List.mem_cons_self
theorem mL.{u} {α : Type u} {a : α} {l : List α} (m : List α) (h : a ∈ l) : a ∈ l ++ m := List.mem_append_left m h
theorem mR.{u} {α : Type u} {a : α} {m : List α} (l : List α) (h : a ∈ m) : a ∈ l ++ m := List.mem_append_right l h
open Ev (one cell_of frozen_of calm)
inductive Cont where
 | obj (o : Obj)
 | row (e : TypeId) (size n cap : Nat) (xs : List Value)
 | seg (off : Nat) (xs : List Value)
def Cont.sat : Cont → Option Obj → Prop
 | .obj o, h => h = some o
 | .row e size n cap xs, h => ∃ cur, h = some (.cells cur e (0, 0)) ∧ xs.length = n * size ∧ n ≤ cap ∧ cap ≤ maxLen ∧ cur.size = cap * size ∧ cur.toList.take (n * size) = xs
 | .seg off xs, h => ∃ c t f, h = some (.cells c t f) ∧ ∀ j u, xs[j]? = some u → c.toList[off + j]? = some u
def Cont.at : Cont → Nat → Option Value
 | .obj (.cells c _ _), i => c.toList[i]?
 | .obj _, _ => none
 | .row _ _ _ _ xs, i => xs[i]?
 | .seg off xs, i => if off ≤ i then xs[i - off]? else none
theorem Cont.some_of {ct : Cont} {h : Option Obj} (hs : ct.sat h) : ∃ o, h = some o := by
 cases ct with
 | obj o => exact ⟨o, hs⟩
 | row e size n cap xs => obtain ⟨cur, h, -⟩ := hs; exact ⟨_, h⟩
 | seg off xs => obtain ⟨c, t, f, h, -⟩ := hs; exact ⟨_, h⟩
theorem take_get {α : Type} {l xs : List α} {n i : Nat} {v : α} (h : l.take n = xs) (hv : xs[i]? = some v) : l[i]? = some v := by
 subst h
 rw [List.getElem?_take] at hv
 split at hv
 ·exact hv
 ·cases hv
theorem Cont.at_spec {ct : Cont} {h : Option Obj} (hs : ct.sat h) {i : Nat} {v : Value} (hv : ct.at i = some v) : ∃ c t f, h = some (.cells c t f) ∧ c[i]? = some v := by
 cases ct with
 | obj o =>
   cases o with
   | cells c t f => exact ⟨c, t, f, hs, by simpa [Cont.at] using hv⟩
   | _ => cases hv
 | row e size n cap xs =>
   obtain ⟨cur, h, -, -, -, -, ht⟩ := hs
   exact ⟨cur, e, (0, 0), h, by simpa using take_get ht hv⟩
 | seg off xs =>
   obtain ⟨c, t, f, h, hc⟩ := hs
   simp only [Cont.at] at hv
   split at hv
   ·rename_i hle
    have := hc _ _ hv
    rw [show off + (i - off) = i by omega] at this
    exact ⟨c, t, f, h, by simpa using this⟩
   ·cases hv
def Cont.asSeg : Cont → Cont
 | .obj (.cells c _ _) => .seg 0 c.toList
 | .row _ _ _ _ xs => .seg 0 xs
 | c => c
theorem Cont.sat_seg {ct : Cont} {h : Option Obj} (hs : ct.sat h) : ct.asSeg.sat h := by
 cases ct with
 | obj o =>
   cases o with
   | cells c t f => exact ⟨c, t, f, hs, fun j u hu => by rw [Nat.zero_add]; exact hu⟩
   | _ => exact hs
 | row e size n cap xs =>
   obtain ⟨cur, h, -, -, -, -, ht⟩ := hs
   exact ⟨cur, e, (0, 0), h, fun j u hu => by rw [Nat.zero_add]; exact take_get ht hu⟩
 | seg off xs => exact hs
def Cont.view : Cont → Cont → Cont
 | .seg .., c => c.asSeg
 | _, c => c
theorem Cont.sat_view {p c : Cont} {h : Option Obj} (hs : c.sat h) : (p.view c).sat h := by
 cases p with
 | seg off xs => exact Cont.sat_seg hs
 | _ => exact hs
def Cont.asRow (c : Cont) (size n cap : Nat) : Cont := match c with
 | .obj (.cells cs t (lo, hi)) => match Nat.beq cs.size (cap * size) && (Nat.ble n cap && (Nat.ble cap maxLen && (Nat.beq lo 0 && Nat.beq hi 0))) with
   | true => .row t size n cap (cs.toList.take (n * size))
   | false => c
 | _ => c
theorem Cont.sat_row {c : Cont} {size n cap : Nat} {h : Option Obj} (hs : c.sat h) : (c.asRow size n cap).sat h := by
 unfold Cont.asRow
 split
 ·rename_i cs t lo hi
  split
  ·rename_i hb
   simp only [Bool.and_eq_true, Nat.beq_eq, Nat.ble_eq] at hb
   obtain ⟨h1, h2, h3, h4, h5⟩ := hb
   subst h4 h5
   refine ⟨cs, hs, ?_, h2, h3, h1, rfl⟩
   have : n * size ≤ cap * size := Nat.mul_le_mul_right _ h2
   simp only [List.length_take, Array.length_toList, h1]
   omega
  ·exact hs
 ·exact hs
def Cont.useView : Cont → Cont → Cont
 | .row _ size n cap _, c => c.asRow size n cap
 | _, c => c
theorem Cont.sat_useView {p c : Cont} {h : Option Obj} (hs : c.sat h) : (p.useView c).sat h := by
 cases p with
 | row e size n cap xs => exact Cont.sat_row hs
 | _ => exact hs
structure Blk where
 nm : Nat
 ct : Cont
 own : Bool
inductive Tok where
 | nat (n : Nat)
 | val (v : Value)
 | cont (c : Cont)
 | code (c : Code)
 | blks (l : List Blk)
 | sem (s : Sem Next)
structure Let where
 n : Nat
 i : Int
 b : Bool
 v : Value
 l : List Value
 q : List (Nat × Cont)
def Let.none : Let := ⟨0, 0, false, .tuple #[], [], []⟩
inductive Hint where
 | pick (b : Nat) (l : List Nat)
 | num (n : Nat)
 | mask (l : List Nat)
 | lit (b : Bool)
 | names (l r : List Nat)
 | sug (j n : Nat)
 | ints (a b : Int)
 | note (js : List Nat) (i n : Nat)
 | way
 | drop (m : Nat)
 | force
 | tail (l : List Nat)
inductive T (α : Type) where
 | ret (a : α)
 | fail
 | ask (k : Let → T α)
 | same (l r : Tok) (k : T α)
 | need (p : Prop) (k : T α)
 | hyp (p : Prop) (k : T α)
 | both (x y : T α)
 | cond (c : Bool) (x y : T α)
 | or (h : Hint) (k : Nat → T α)
namespace T
variable {α β : Type}
def all (K : α → Prop) : T α → Prop
 | ret a => K a
 | fail => False
 | ask k => ∀ x, (k x).all K
 | same l r k => l = r ∧ k.all K
 | need p k => p ∧ k.all K
 | hyp p k => p → k.all K
 | both x y => x.all K ∧ y.all K
 | cond c x y => (c = true → x.all K) ∧ (c = false → y.all K)
 | or _ k => ∃ j, (k j).all K
end T
inductive O where
 | nil
 | step (j : Nat) (o : O)
 | fork (a b : O)
def O.steps : List Nat → O → O
 | [], o => o
 | j :: l, o => .step j (O.steps l o)
inductive Res (α : Type) where
 | leaf (a : α)
 | need (p : Prop) (r : Res α)
 | hyp (p : Prop) (r : Res α)
 | both (x y : Res α)
 | br (c : Bool) (x y : Res α)
namespace Res
variable {α β : Type}
def holds (K : α → Prop) : Res α → Prop
 | leaf a => K a
 | need p r => p ∧ r.holds K
 | hyp p r => p → r.holds K
 | both x y => x.holds K ∧ y.holds K
 | br c x y => (c = true → x.holds K) ∧ (c = false → y.holds K)
theorem holds_mono {K K' : α → Prop} (h : ∀ a, K a → K' a) : ∀ r : Res α, r.holds K → r.holds K'
 | leaf _, h1 => h _ h1
 | need _ r, h1 => ⟨h1.1, holds_mono h r h1.2⟩
 | hyp _ r, h1 => fun hp => holds_mono h r (h1 hp)
 | both x y, h1 => ⟨holds_mono h x h1.1, holds_mono h y h1.2⟩
 | br _ x y, h1 => ⟨fun hc => holds_mono h x (h1.1 hc), fun hc => holds_mono h y (h1.2 hc)⟩
end Res
inductive TT where
 | nil
 | cons (t : Tok) (r : TT)
 | node (x y : TT)
structure Out (α : Type) where
 res : Res α
 l : TT
 r : TT
def T.run {α : Type} (t : T α) : O → (Nat → Let) → Option (Out α) :=
 @T.rec α (fun _ => O → (Nat → Let) → Option (Out α))
  (fun a _ _ => some ⟨.leaf a, .nil, .nil⟩)
  (fun _ _ => none)
  (fun _ ih o ns => ih (ns 0) o fun j => ns (j + 1))
  (fun l r _ ih o ns => match ih o ns with
   | some x => some ⟨x.res, .cons l x.l, .cons r x.r⟩
   | none => none)
  (fun p _ ih o ns => match ih o ns with
   | some x => some ⟨.need p x.res, x.l, x.r⟩
   | none => none)
  (fun p _ ih o ns => match ih o ns with
   | some x => some ⟨.hyp p x.res, x.l, x.r⟩
   | none => none)
  (fun _ _ ihx ihy o ns => match o with
   | .fork a b => match ihx a ns, ihy b ns with
     | some u, some v => some ⟨.both u.res v.res, .node u.l v.l, .node u.r v.r⟩
     | _, _ => none
   | _ => none)
  (fun c _ _ ihx ihy o ns => match o with
   | .fork a b => match ihx a ns, ihy b ns with
     | some u, some v => some ⟨.br c u.res v.res, .node u.l v.l, .node u.r v.r⟩
     | _, _ => none
   | .step _ a => match c with
     | true => ihx a ns
     | false => ihy a ns
   | .nil => none)
  (fun _ _ ih o ns => match o with
   | .step j a => ih j a ns
   | _ => none)
  t
section
variable {α : Type} (o : O) (ns : Nat → Let)
theorem run_same (l r : Tok) (k : T α) : (T.same l r k).run o ns = (match k.run o ns with
  | some x => some ⟨x.res, .cons l x.l, .cons r x.r⟩
  | none => none) := rfl
theorem run_need (p : Prop) (k : T α) : (T.need p k).run o ns = (match k.run o ns with
  | some x => some ⟨.need p x.res, x.l, x.r⟩
  | none => none) := rfl
theorem run_hyp (p : Prop) (k : T α) : (T.hyp p k).run o ns = (match k.run o ns with
  | some x => some ⟨.hyp p x.res, x.l, x.r⟩
  | none => none) := rfl
theorem run_both (x y : T α) : (T.both x y).run o ns = (match o with
  | .fork a b => match x.run a ns, y.run b ns with
    | some u, some v => some ⟨.both u.res v.res, .node u.l v.l, .node u.r v.r⟩
    | _, _ => none
  | _ => none) := rfl
theorem run_cond (c : Bool) (x y : T α) : (T.cond c x y).run o ns = (match o with
  | .fork a b => match x.run a ns, y.run b ns with
    | some u, some v => some ⟨.br c u.res v.res, .node u.l v.l, .node u.r v.r⟩
    | _, _ => none
  | .step _ a => match c with
    | true => x.run a ns
    | false => y.run a ns
  | .nil => none) := rfl
end
def consN {α : Type} (a : α) (f : Nat → α) : Nat → α
 | 0 => a
 | j + 1 => f j
theorem all_of_run {α : Type} {K : α → Prop} : ∀ (t : T α) (o : O), (∀ ns, ∃ x, t.run o ns = some x ∧ x.l = x.r ∧ x.res.holds K) → t.all K
 | .ret a, o, h => by
   obtain ⟨x, h1, -, h3⟩ := h fun _ => Let.none
   injection h1 with h1
   subst h1
   exact h3
 | .fail, o, h => by
   obtain ⟨x, h1, -⟩ := h fun _ => Let.none
   cases h1
 | .ask k, o, h => fun x => all_of_run (k x) o fun ns => h (consN x ns)
 | .same l r k, o, h => by
   have key : ∀ ns, ∃ x, k.run o ns = some x ∧ l = r ∧ x.l = x.r ∧ x.res.holds K := fun ns => by
    obtain ⟨x, h1, h2, h3⟩ := h ns
    rw [run_same] at h1
    split at h1
    ·rename_i y hy
     injection h1 with h1
     subst h1
     simp only [TT.cons.injEq] at h2
     exact ⟨y, hy, h2.1, h2.2, h3⟩
    ·cases h1
   exact ⟨(key fun _ => Let.none).elim fun _ h => h.2.1, all_of_run k o fun ns => (key ns).imp fun _ h => ⟨h.1, h.2.2⟩⟩
 | .need p k, o, h => by
   have key : ∀ ns, ∃ x, k.run o ns = some x ∧ p ∧ x.l = x.r ∧ x.res.holds K := fun ns => by
    obtain ⟨x, h1, h2, h3⟩ := h ns
    rw [run_need] at h1
    split at h1
    ·rename_i y hy
     injection h1 with h1
     subst h1
     exact ⟨y, hy, h3.1, h2, h3.2⟩
    ·cases h1
   exact ⟨(key fun _ => Let.none).elim fun _ h => h.2.1, all_of_run k o fun ns => (key ns).imp fun _ h => ⟨h.1, h.2.2⟩⟩
 | .hyp p k, o, h => fun hp => all_of_run k o fun ns => by
   obtain ⟨x, h1, h2, h3⟩ := h ns
   rw [run_hyp] at h1
   split at h1
   ·rename_i y hy
    injection h1 with h1
    subst h1
    exact ⟨y, hy, h2, h3 hp⟩
   ·cases h1
 | .both x y, .nil, h => by
   obtain ⟨z, h1, -⟩ := h fun _ => Let.none
   cases h1
 | .both x y, .step _ _, h => by
   obtain ⟨z, h1, -⟩ := h fun _ => Let.none
   cases h1
 | .both x y, .fork a b, h => by
   have key : ∀ ns, ∃ u v, x.run a ns = some u ∧ y.run b ns = some v ∧ u.l = u.r ∧ v.l = v.r ∧ u.res.holds K ∧ v.res.holds K := fun ns => by
    obtain ⟨z, h1, h2, h3⟩ := h ns
    rw [run_both] at h1; dsimp only at h1
    split at h1
    ·rename_i u v hu hv
     injection h1 with h1
     subst h1
     simp only [TT.node.injEq] at h2
     exact ⟨u, v, hu, hv, h2.1, h2.2, h3.1, h3.2⟩
    ·cases h1
   exact ⟨all_of_run x a fun ns => (key ns).elim fun u h => h.elim fun v h => ⟨u, h.1, h.2.2.1, h.2.2.2.2.1⟩,
    all_of_run y b fun ns => (key ns).elim fun u h => h.elim fun v h => ⟨v, h.2.1, h.2.2.2.1, h.2.2.2.2.2⟩⟩
 | .cond c x y, .nil, h => by
   obtain ⟨z, h1, -⟩ := h fun _ => Let.none
   cases h1
 | .cond c x y, .step _ a, h => by
   cases c with
   | true => exact ⟨fun _ => all_of_run x a fun ns => h ns, fun hc => (by cases hc)⟩
   | false => exact ⟨fun hc => (by cases hc), fun _ => all_of_run y a fun ns => h ns⟩
 | .cond c x y, .fork a b, h => by
   have key : ∀ ns, ∃ u v, x.run a ns = some u ∧ y.run b ns = some v ∧ u.l = u.r ∧ v.l = v.r ∧ (c = true → u.res.holds K) ∧ (c = false → v.res.holds K) := fun ns => by
    obtain ⟨z, h1, h2, h3⟩ := h ns
    rw [run_cond] at h1; dsimp only at h1
    split at h1
    ·rename_i u v hu hv
     injection h1 with h1
     subst h1
     simp only [TT.node.injEq] at h2
     exact ⟨u, v, hu, hv, h2.1, h2.2, h3.1, h3.2⟩
    ·cases h1
   exact ⟨fun hc => all_of_run x a fun ns => (key ns).elim fun u h => h.elim fun v h => ⟨u, h.1, h.2.2.1, h.2.2.2.2.1 hc⟩,
    fun hc => all_of_run y b fun ns => (key ns).elim fun u h => h.elim fun v h => ⟨v, h.2.1, h.2.2.2.1, h.2.2.2.2.2 hc⟩⟩
 | .or _ k, .nil, h => by
   obtain ⟨z, h1, -⟩ := h fun _ => Let.none
   cases h1
 | .or _ k, .fork _ _, h => by
   obtain ⟨z, h1, -⟩ := h fun _ => Let.none
   cases h1
 | .or _ k, .step j a, h => ⟨j, all_of_run (k j) a h⟩
def Far (p q : Blk) : Prop := (p.own || q.own) = true → p.nm ≠ q.nm
theorem Far.symm {p q : Blk} (h : Far p q) : Far q p := fun ho he => h (by rw [Bool.or_comm]; exact ho) he.symm
structure Rep (w0 : World) (keep : Nat → Prop) (L : List Blk) (W : World) : Prop where
 os : W.os = w0.os
 tape : W.tape = w0.tape
 output : W.output = w0.output
 size : w0.heap.size ≤ W.heap.size
 old : ∀ k, k < w0.heap.size → keep k → W.heap[k]? = w0.heap[k]?
 blk : ∀ p ∈ L, p.ct.sat W.heap[p.nm]? ∧ (p.own = true → p.nm < w0.heap.size → ¬ keep p.nm)
 far : L.Pairwise Far
section rep
variable {w0 W : World} {keep : Nat → Prop} {L : List Blk}
theorem Rep.draw (h : Rep w0 keep L W) : Rep w0 keep L { W with drawn := W.drawn + 1 } := ⟨h.os, h.tape, h.output, h.size, h.old, h.blk, h.far⟩
theorem Rep.at (h : Rep w0 keep L W) {j : Nat} {p : Blk} (hj : L[j]? = some p) : p.ct.sat W.heap[p.nm]? := (h.blk p (List.mem_of_getElem? hj)).1
theorem Rep.lt (h : Rep w0 keep L W) {p : Blk} (hp : p ∈ L) : p.nm < W.heap.size := by
 obtain ⟨o, ho⟩ := Cont.some_of (h.blk p hp).1
 exact (Array.getElem?_eq_some_iff.1 ho).1
theorem Rep.push (h : Rep w0 keep L W) (o : Obj) : Rep w0 keep (⟨W.heap.size, .obj o, true⟩ :: L) { W with heap := W.heap.push o } := by
 refine ⟨h.os, h.tape, h.output, by have := h.size; simp; omega, fun k hk hkp => ?_, fun p hp => ?_, ?_⟩
 ·have := h.size
  show (W.heap.push o)[k]? = _
  rw [Array.getElem?_push, if_neg (by omega)]
  exact h.old k hk hkp
 ·simp only [List.mem_cons] at hp
  rcases hp with rfl | hp
  ·refine ⟨?_, fun _ hlt => ?_⟩
   ·show (W.heap.push o)[W.heap.size]? = _
    rw [Array.getElem?_push, if_pos rfl]
   ·have := h.size
    simp only at hlt
    omega
  ·have hlt := h.lt hp
   obtain ⟨h1, h2⟩ := h.blk p hp
   refine ⟨?_, h2⟩
   show p.ct.sat (W.heap.push o)[p.nm]?
   rw [Array.getElem?_push, if_neg (by omega)]
   exact h1
 ·simp only [List.pairwise_cons]
  refine ⟨fun q hq _ he => ?_, h.far⟩
  have := h.lt hq
  simp only at he
  omega
theorem far_ne {L : List Blk} (h : L.Pairwise Far) {i j : Nat} {p q : Blk} (hi : L[i]? = some p) (hj : L[j]? = some q) (hne : i ≠ j) : Far p q := by
 obtain ⟨hi1, hi2⟩ := List.getElem?_eq_some_iff.1 hi
 obtain ⟨hj1, hj2⟩ := List.getElem?_eq_some_iff.1 hj
 rcases Nat.lt_or_gt_of_ne hne with hlt | hlt
 ·have := List.pairwise_iff_getElem.1 h i j hi1 hj1 hlt
  rwa [hi2, hj2] at this
 ·have := List.pairwise_iff_getElem.1 h j i hj1 hi1 hlt
  rw [hi2, hj2] at this
  exact this.symm
theorem Rep.set {W' : World} (h : Rep w0 keep L W) {j : Nat} {p : Blk} (hj : L[j]? = some p) (hown : p.own = true) (ct : Cont)
  (h1 : W'.os = W.os) (h2 : W'.tape = W.tape) (h3 : W'.output = W.output) (h4 : W'.heap.size = W.heap.size) (h5 : ∀ k, k ≠ p.nm → W'.heap[k]? = W.heap[k]?) (h6 : ct.sat W'.heap[p.nm]?) :
  Rep w0 keep (L.set j ⟨p.nm, ct, true⟩) W' := by
 have hp := h.blk p (List.mem_of_getElem? hj)
 obtain ⟨hjl, hje⟩ := List.getElem?_eq_some_iff.1 hj
 refine ⟨h1.trans h.os, h2.trans h.tape, h3.trans h.output, by rw [h4]; exact h.size, fun k hk hkp => ?_, fun q hq => ?_, ?_⟩
 ·rw [h5 k (fun he => by subst he; exact hp.2 hown hk hkp)]; exact h.old k hk hkp
 ·obtain ⟨i, hi⟩ := List.mem_iff_getElem?.1 hq
  rw [List.getElem?_set] at hi
  split at hi
  ·rename_i hij
   injection hi with hi
   subst hi
   exact ⟨h6, fun _ => hp.2 hown⟩
  ·rename_i hij
   have hb := h.blk q (List.mem_of_getElem? hi)
   refine ⟨?_, hb.2⟩
   rw [h5 q.nm (far_ne h.far hi hj (Ne.symm hij) (by rw [hown, Bool.or_true]))]
   exact hb.1
 ·rw [List.pairwise_iff_getElem]
  intro i k hi hk hik
  have hi' : i < L.length := by simpa using hi
  have hk' : k < L.length := by simpa using hk
  have h0 := List.pairwise_iff_getElem.1 h.far i k hi' hk' hik
  simp only [List.getElem_set]
  have hown' : L[j].own = true := by rw [hje]; exact hown
  have hnm : p.nm = L[j].nm := by rw [hje]
  split
  ·rename_i e1
   subst e1
   split
   ·omega
   ·intro _
    have h1 := h0 (by rw [hown']; rfl)
    rw [← hnm] at h1
    exact h1
  ·split
   ·rename_i e1
    subst e1
    intro _
    have h1 := h0 (by rw [hown', Bool.or_true])
    rw [← hnm] at h1
    exact h1
   ·exact h0
theorem Rep.sub {L' : List Blk} (h : Rep w0 keep L W) (hs : List.Sublist L' L) : Rep w0 keep L' W :=
 ⟨h.os, h.tape, h.output, h.size, h.old, fun p hp => h.blk p (hs.subset hp), h.far.sublist hs⟩
end rep
structure MemC where
 rd : List (Nat × Cont)
 use : List (Nat × Cont)
 m : Nat
 rb : List (Nat × Cont)
structure OutM where
 hyp : List Let → Prop
 nw : List Let → List (Nat × Cont)
 nb : List Let → List (Nat × Cont)
structure MemC.pre (c : MemC) (W : World) : Prop where
 rd : ∀ p ∈ c.rd, p.2.sat W.heap[p.1]?
 use : ∀ p ∈ c.use, p.2.sat W.heap[p.1]?
 nodup : (c.use.map (·.1)).Nodup
 apart : ∀ p ∈ c.rd, ∀ q ∈ c.use, p.1 ≠ q.1
 rb : ∀ p ∈ c.rb, p.2.sat W.heap[p.1]?
 apartB : ∀ p ∈ c.rb, ∀ q ∈ c.use, p.1 ≠ q.1
structure MemC.post (c : MemC) (o : OutM) (W W' : World) (ns : List Let) : Prop where
 len : ns.length = c.m
 hyp : o.hyp ns
 os : W'.os = W.os
 tape : W'.tape = W.tape
 output : W'.output = W.output
 size : W.heap.size ≤ W'.heap.size
 old : ∀ k, k < W.heap.size → (∀ p ∈ c.use, p.1 ≠ k) → W'.heap[k]? = W.heap[k]?
 nw : ∀ p ∈ o.nw ns, (W.heap.size ≤ p.1 ∨ ∃ q ∈ c.use, q.1 = p.1) ∧ p.2.sat W'.heap[p.1]?
 nodup : ((o.nw ns).map (·.1)).Nodup
 nb : ∀ p ∈ o.nb ns, (W.heap.size ≤ p.1 ∨ ∃ q ∈ c.use, q.1 = p.1) ∧ p.2.sat W'.heap[p.1]?
 nodupB : ((o.nb ns).map (·.1)).Nodup
 apartB : ∀ p ∈ o.nw ns, ∀ q ∈ o.nb ns, p.1 ≠ q.1
structure CallC where
 f : FuncId
 args : Array Value
 ok : Prop
 mem : MemC
 outs : List (OutM × (List Let → Value))
def Meets (P : Program) (c : CallC) : Prop :=
 c.ok → ∀ W : World, c.mem.pre W → Calls P c.f c.args W fun en W' => ∃ o ∈ c.outs, ∃ ns, en = .returned (o.2 ns) ∧ c.mem.post o.1 W W' ns
structure LoopC where
 c : Code
 n : Nat
 sl : List (Nat × Value)
 ok : Prop
 mem : MemC
 outs : List (OutM × Exit × (List Let → List (Nat × Value)))
def MeetsL (P : Program) (c : LoopC) : Prop :=
 c.ok → ∀ (a : Act) (W : World), Known c.n c.sl a → c.mem.pre W → c.c.wp P (fun x a' W' => ∃ o ∈ c.outs, x = o.2.1 ∧ calm x = true ∧ ∃ ns, Known c.n (o.2.2 ns) a' ∧ c.mem.post o.1 W W' ns) a W
structure OpC where
 mem : MemC
 outs : List (OutM × (List Let → Option Value))
def nextO : Option Value → Next
 | some v => .value v
 | none => .skip
def OpMeets (P : Program) (s : Sem Next) (c : OpC) : Prop :=
 ∀ W : World, c.mem.pre W → ∃ o ∈ c.outs, ∃ ns W', s.run P W = .ok (nextO (o.2 ns)) W' ∧ c.mem.post o.1 W W' ns
structure OpK where
 s : Sem Next
 ok : Prop
 c : OpC
def OpK.meets (P : Program) (k : OpK) : Prop := k.ok → OpMeets P k.s k.c
structure CallU where
 f : FuncId
 args : Array Value
 ok : Prop
 rd : List (Nat × Cont)
 m : Nat
 rb : List (Nat × Cont)
 outs : List (OutM × (List Let → Value))
 u1 : List (Nat × Cont)
 ub : List (Nat × Cont)
 rest : List Blk
def CallU.c (k : CallU) : CallC := ⟨k.f, k.args, k.ok, ⟨k.rd, k.u1 ++ k.ub, k.m, k.rb⟩, k.outs⟩
def CallC.toU (c : CallC) (u1 ub : List (Nat × Cont)) (rest : List Blk) : CallU := ⟨c.f, c.args, c.ok, c.mem.rd, c.mem.m, c.mem.rb, c.outs, u1, ub, rest⟩
structure LoopU where
 x : Code
 n : Nat
 sl : List (Nat × Value)
 ok : Prop
 rd : List (Nat × Cont)
 m : Nat
 rb : List (Nat × Cont)
 outs : List (OutM × Exit × (List Let → List (Nat × Value)))
 u1 : List (Nat × Cont)
 ub : List (Nat × Cont)
 rest : List Blk
def LoopU.c (k : LoopU) : LoopC := ⟨k.x, k.n, k.sl, k.ok, ⟨k.rd, k.u1 ++ k.ub, k.m, k.rb⟩, k.outs⟩
def LoopC.toU (c : LoopC) (u1 ub : List (Nat × Cont)) (rest : List Blk) : LoopU := ⟨c.c, c.n, c.sl, c.ok, c.mem.rd, c.mem.m, c.mem.rb, c.outs, u1, ub, rest⟩
structure Ctx where
 cl : FuncId → List (Array Value → List Blk → CallC)
 lp : FuncId → List (F → List Blk → LoopC)
 rg : FuncId → Nat → List (F → List Blk → LoopC)
 op : FuncId → Nat → List (F → List Blk → OpK)
 cu : FuncId → List (Array Value → List Blk → CallU)
 lu : FuncId → List (F → List Blk → LoopU)
structure Ctx.holds (P : Program) (S : Ctx) : Prop where
 cl : ∀ f, ∀ c ∈ S.cl f, ∀ a L, Meets P (c a L)
 lp : ∀ f, ∀ c ∈ S.lp f, ∀ a L, MeetsL P (c a L)
 rg : ∀ f n, ∀ c ∈ S.rg f n, ∀ a L, MeetsL P (c a L)
 op : ∀ f n, ∀ c ∈ S.op f n, ∀ a L, (c a L).meets P
 cu : ∀ f, ∀ c ∈ S.cu f, ∀ a L, Meets P (c a L).c
 lu : ∀ f, ∀ c ∈ S.lu f, ∀ a L, MeetsL P (c a L).c
variable (P : Program) (S : Ctx)
section
variable {α : Type}
def pickT (L : List Blk) (b : Nat) (k : Blk → Nat → T α) : T α := .or (.pick b (L.map (·.nm))) fun j => match nth L j with
 | some p => .same (.nat b) (.nat p.nm) (k p j)
 | none => .fail
def two {β : Type} (x y : β) : Nat → β
 | 0 => x
 | _ + 1 => y
def altT (x y : T α) : T α := .or (.num 2) (two x y)
def litT (b : Bool) (x y : T α) : T α := .or (.lit b) (two x y)
theorem litT_spec {b : Bool} {x y : T α} {K : α → Prop} (h : (litT b x y).all K) : x.all K ∨ y.all K := by
 obtain ⟨j, h⟩ := h
 cases j with
 | zero => exact .inl h
 | succ j => exact .inr h
theorem altT_spec {x y : T α} {K : α → Prop} (h : (altT x y).all K) : x.all K ∨ y.all K := by
 obtain ⟨j, h⟩ := h
 cases j with
 | zero => exact .inl h
 | succ j => exact .inr h
theorem two_spec {h : Hint} {x y : T α} {K : α → Prop} (hx : (T.or h (two x y)).all K) : x.all K ∨ y.all K := by
 obtain ⟨j, hx⟩ := hx
 cases j with
 | zero => exact .inl hx
 | succ j => exact .inr hx
def reqP (b : Bool) (p : Prop) (k : T α) : T α := altT (match b with
 | true => k
 | false => .fail) (.need p k)
theorem tok_nat {a b : Nat} (h : Tok.nat a = Tok.nat b) : a = b := by injection h
theorem tok_val {a b : Value} (h : Tok.val a = Tok.val b) : a = b := by injection h
theorem tok_cont {a b : Cont} (h : Tok.cont a = Tok.cont b) : a = b := by injection h
theorem tok_code {a b : Code} (h : Tok.code a = Tok.code b) : a = b := by injection h
theorem tok_sem {a b : Sem Next} (h : Tok.sem a = Tok.sem b) : a = b := by injection h
theorem tok_blks {a b : List Blk} (h : Tok.blks a = Tok.blks b) : a = b := by injection h
theorem pickT_spec {L : List Blk} {b : Nat} {k : Blk → Nat → T α} {K : α → Prop} (h : (pickT L b k).all K) : ∃ p j, L[j]? = some p ∧ b = p.nm ∧ (k p j).all K := by
 obtain ⟨j, h⟩ := h
 dsimp only at h
 split at h
 ·rename_i p hp
  exact ⟨p, j, by rw [← nth_eq]; exact hp, tok_nat h.1, h.2⟩
 ·exact h.elim
theorem reqP_spec {b : Bool} {p : Prop} {k : T α} {K : α → Prop} (h : (reqP b p k).all K) : (b = true ∨ p) ∧ k.all K := by
 rcases altT_spec h with h | h
 ·cases b with
  | true => exact ⟨.inl rfl, h⟩
  | false => exact h.elim
 ·exact ⟨.inr h.1, h.2⟩
def forceL {β : Type} (l : List β) : (List β → T α) → T α :=
 @List.rec β (fun _ => (List β → T α) → T α) (fun k => k []) (fun x _ ih k => ih fun l' => k (x :: l')) l
theorem forceL_eq {β : Type} : ∀ (l : List β) (k : List β → T α), forceL l k = k l
 | [], _ => rfl
 | x :: l, k => forceL_eq l fun l' => k (x :: l')
def forceT {β : Type} (l : List β) (k : List β → T α) : T α := .or .force (two (forceL l k) (k l))
theorem forceT_spec {β : Type} {l : List β} {k : List β → T α} {K : α → Prop} (h : (forceT l k).all K) : (k l).all K := by
 rcases two_spec h with h | h
 ·rw [forceL_eq] at h
  exact h
 ·exact h
def setK {β : Type} (l : List β) : Nat → β → (List β → T α) → T α :=
 @List.rec β (fun _ => Nat → β → (List β → T α) → T α) (fun _ _ _ => .fail)
  (fun x r ih i v k => @Nat.rec (fun _ => T α) (k (v :: r)) (fun i _ => ih i v fun l' => k (x :: l')) i) l
theorem setK_spec {β : Type} {K : α → Prop} : ∀ {l : List β} {i : Nat} {v : β} {k : List β → T α}, (setK l i v k).all K → i < l.length ∧ (k (l.set i v)).all K
 | [], _, _, _, h => h.elim
 | x :: l, 0, v, k, h => ⟨by simp, h⟩
 | x :: l, i + 1, v, k, h => by
   obtain ⟨h1, h2⟩ := setK_spec (l := l) (i := i) (v := v) (k := fun l' => k (x :: l')) h
   exact ⟨by simpa using h1, h2⟩
def strV (v : Value) : ByteArray := match v with
 | .string s => s
 | _ => ByteArray.empty
def kindT (z : Value) (o : Option Value) (k : Value → T α) : T α := match z with
 | .int kd _ => .need (∃ i, o = some (.int kd i)) (.ask fun x => .hyp (o = some (.int kd x.i)) (k (.int kd x.i)))
 | .bool _ => .need (∃ b, o = some (.bool b)) (.ask fun x => .hyp (o = some (.bool x.b)) (k (.bool x.b)))
 | .string _ => .need (∃ s, o = some (.string s)) (.ask fun x => .hyp (o = some (.string (strV x.v))) (k (.string (strV x.v))))
 | _ => .need (∃ v, o = some v) (.ask fun x => .hyp (o = some x.v) (k x.v))
theorem kindT_spec {z : Value} {o : Option Value} {k : Value → T α} {K : α → Prop} (h : (kindT z o k).all K) : ∃ v, o = some v ∧ (k v).all K := by
 unfold kindT at h
 split at h
 ·obtain ⟨⟨i, hi⟩, h⟩ := h
  exact ⟨_, hi, h ⟨0, i, false, undef, [], []⟩ hi⟩
 ·obtain ⟨⟨b, hb⟩, h⟩ := h
  exact ⟨_, hb, h ⟨0, 0, b, undef, [], []⟩ hb⟩
 ·obtain ⟨⟨s, hs⟩, h⟩ := h
  exact ⟨_, hs, h ⟨0, 0, false, .string s, [], []⟩ hs⟩
 ·obtain ⟨⟨v, hv⟩, h⟩ := h
  exact ⟨_, hv, h ⟨0, 0, false, v, [], []⟩ hv⟩
def loadT (z : Option Value) (o : Option Value) (k : Value → T α) : T α := match z with
 | none => match o with
   | some v => k v
   | none => .fail
 | some z => altT (match o with
   | some v => k v
   | none => .fail) (kindT z o k)
theorem loadT_spec {z : Option Value} {o : Option Value} {k : Value → T α} {K : α → Prop} (h : (loadT z o k).all K) : ∃ v, o = some v ∧ (k v).all K := by
 unfold loadT at h
 split at h
 ·split at h
  ·exact ⟨_, rfl, h⟩
  ·exact h.elim
 ·rcases altT_spec h with h | h
  ·split at h
   ·exact ⟨_, rfl, h⟩
   ·exact h.elim
  ·exact kindT_spec h
end
def putT {α : Type} (L : List Blk) (p : Blk) (j : Nat) (a : Addr) (v : Value) (k : List Blk → T α) : T α := match a.spot with
 | some _ => .fail
 | none => match p with
   | ⟨n, .obj (.cells c t (lo, hi)), true⟩ => match (decide (lo ≤ a.off) && decide (a.off < hi)) with
     | false => altT (setK c.toList a.off v fun l' => setK L j ⟨n, .obj (.cells ⟨l'⟩ t (lo, hi)), true⟩ k)
       (.need (a.off < c.size) (setK L j ⟨n, .obj (.cells (c.setIfInBounds a.off v) t (lo, hi)), true⟩ k))
     | true => .fail
   | ⟨n, .row t size m cap xs, true⟩ => reqP (Nat.blt a.off xs.length) (a.off < xs.length) (setK L j ⟨n, .row t size m cap (xs.set a.off v), true⟩ k)
   | _ => .fail
theorem putT_sound {α : Type} {w0 W : World} {keep : Nat → Prop} {L : List Blk} {p : Blk} {j : Nat} {a : Addr} {v : Value} {k : List Blk → T α} {K : α → Prop} (h : (putT L p j a v k).all K) (hj : L[j]? = some p) (hb : a.block = p.nm) (hr : Rep w0 keep L W) :
  ∃ L' u, W.cell? a = some u ∧ W.frozen? a = false ∧ Rep w0 keep L' (W.setCell a v) ∧ (k L').all K := by
 unfold putT at h
 split at h
 ·exact h.elim
 rename_i hs
 split at h
 ·rename_i n c t lo hi
  split at h
  ·rename_i hfz
   have hat : W.heap[n]? = some (.cells c t (lo, hi)) := hr.at hj
   have hfz' : W.frozen? a = false := by rw [frozen_of hb hat]; exact hfz
   have hb : a.block = n := hb
   have key : a.off < c.size → (setK L j ⟨n, .obj (.cells (c.setIfInBounds a.off v) t (lo, hi)), true⟩ k).all K → ∃ L' u, W.cell? a = some u ∧ W.frozen? a = false ∧ Rep w0 keep L' (W.setCell a v) ∧ (k L').all K := fun hlt h => by
    have hcell : W.cell? a = some c[a.off] := by rw [cell_of hb hat hs]; simp [hlt]
    refine ⟨_, _, hcell, hfz', ?_, (setK_spec h).2⟩
    refine hr.set hj rfl _ rfl rfl rfl (by simp [World.setCell]) (fun k hk => ?_) ?_
    ·simp only [World.setCell, Array.getElem?_modify]
     rw [if_neg (by rw [hb]; exact fun h => hk h.symm)]
    ·show (W.setCell a v).heap[n]? = _
     simp only [World.setCell, Array.getElem?_modify, hb, if_true]
     rw [hat]
     simp [hs]
   rcases altT_spec h with h | h
   ·obtain ⟨hlt, h⟩ := setK_spec h
    refine key (by simpa using hlt) ?_
    have e : c.setIfInBounds a.off v = ⟨c.toList.set a.off v⟩ := by
     apply Array.ext'
     simp
    rw [e]
    exact h
   ·exact key h.1 h.2
  ·exact h.elim
 ·rename_i n t size m' cap xs
  obtain ⟨hlt, h⟩ := reqP_spec h
  have hlt : a.off < xs.length := hlt.elim (fun h => Nat.le_of_ble_eq_true h) id
  have hb : a.block = n := hb
  obtain ⟨cur, hat, hlen, hnc, hcm, hcs, htk⟩ : Cont.sat (.row t size m' cap xs) W.heap[n]? := hr.at hj
  have hcu : cur.toList[a.off]? = some xs[a.off] := take_get htk (List.getElem?_eq_getElem hlt)
  have hcell : W.cell? a = some xs[a.off] := by rw [cell_of hb hat hs]; simpa using hcu
  have hfz' : W.frozen? a = false := by rw [frozen_of hb hat]; simp
  refine ⟨_, _, hcell, hfz', ?_, (setK_spec h).2⟩
  refine hr.set hj rfl _ rfl rfl rfl (by simp [World.setCell]) (fun k hk => ?_) ⟨cur.setIfInBounds a.off v, ?_, by simpa using hlen, hnc, hcm, by simpa using hcs, ?_⟩
  ·simp only [World.setCell, Array.getElem?_modify]
   rw [if_neg (by rw [hb]; exact fun h => hk h.symm)]
  ·simp only [World.setCell, Array.getElem?_modify, hb, if_true]
   rw [hat]
   simp [hs]
  ·rw [Array.toList_setIfInBounds, ← htk, List.take_set]
 ·exact h.elim
def lrun {α β : Type} (s : Sem β) : List Value → List Blk → (β → List Blk → T α) → T α :=
 @Sem.rec β (fun _ => List Value → List Blk → (β → List Blk → T α) → T α)
  (fun a _ L c => c a L)
  (fun _ a _ ih zs L c => pickT L a.block fun p _ => match a.spot with
   | some _ => .fail
   | none => loadT zs.head? (p.ct.at a.off) fun v => ih v zs.tail L c)
  (fun _ a v _ ih zs L c => pickT L a.block fun p j => reqP (one v) (one v = true) (putT L p j a v fun L' => ih zs L' c))
  (fun o _ ih zs L c => .ask fun x => ih x.n zs (⟨x.n, .obj o, true⟩ :: L) c)
  (fun r _ ih zs L c => pickT L r fun p _ => match p.ct with
   | .obj (.cells cs t _) => ih (some (t, cs.size)) zs L c
   | .row t size _ cap _ => ih (some (t, cap * size)) zs L c
   | _ => .fail)
  (fun a n _ ih zs L c => pickT L a.block fun p j => match p with
   | ⟨nm, .obj (.cells cs _ _), true⟩ => match Nat.beq n 0 with
     | true => .fail
     | false => setK L j ⟨nm, .seg 0 cs.toList, true⟩ fun L' => ih zs L' c
   | _ => .fail)
  (fun a _ ih zs L c => pickT L a.block fun p _ => match p.ct with
   | .obj (.cells _ _ (lo, hi)) => ih (decide (lo ≤ a.off) && decide (a.off < hi)) zs L c
   | .row _ _ _ _ _ => ih false zs L c
   | _ => .fail)
  (fun r _ ih zs L c => pickT L r fun p _ => match p.ct with
   | .obj (.cells ..) => .fail
   | .obj o => ih o zs L c
   | _ => .fail)
  (fun r o _ ih zs L c => pickT L r fun p j => match p with
   | ⟨_, .obj (.cells ..), _⟩ => .fail
   | ⟨n, .obj _, true⟩ => ih zs (L.set j ⟨n, .obj o, true⟩) c
   | _ => .fail)
  (fun q _ ih zs L c => match q.forced with
   | true => ih 0 zs L c
   | false => .fail)
  (fun _ _ _ _ _ _ => .fail)
  (fun _ ih zs L c => ih P zs L c)
  (fun _ _ ih zs L c => ih zs L c)
  (fun _ _ _ _ => .fail)
  s
theorem cell_at {W : World} {a : Addr} {n : Nat} {ct : Cont} {v : Value} (hb : a.block = n) (hs : ct.sat W.heap[n]?) (hp : a.spot = none) (hv : ct.at a.off = some v) : W.cell? a = some v := by
 obtain ⟨c, t, f, h, hc⟩ := Cont.at_spec hs hv
 rw [cell_of hb h hp]
 exact hc
theorem lrun_sound {w0 : World} {keep : Nat → Prop} {α β : Type} {K : α → Prop} (s : Sem β) : ∀ (zs : List Value) (L : List Blk) (W : World) (c : β → List Blk → T α), (lrun P s zs L c).all K → Rep w0 keep L W →
  ∃ x L' W', s.run P W = .ok x W' ∧ Rep w0 keep L' W' ∧ (c x L').all K := by
 induction s with
 | pure a => intro zs L W c h hr; exact ⟨a, L, W, rfl, hr, h⟩
 | load m a k ih =>
   intro zs L W c h hr
   obtain ⟨p, j, hj, hb, h⟩ := pickT_spec h
   split at h
   ·exact h.elim
   ·rename_i hs
    obtain ⟨v, hv, h⟩ := loadT_spec h
    obtain ⟨x, L', W', h1, h2⟩ := ih v _ _ W c h hr
    refine ⟨x, L', W', ?_, h2⟩
    simp only [Sem.run, cell_at hb (hr.at hj) hs hv]
    exact h1
 | store m a v k ih =>
   intro zs L W c h hr
   obtain ⟨p, j, hj, hb, h⟩ := pickT_spec h
   obtain ⟨hone, h⟩ := reqP_spec h
   have hone : one v = true := hone.elim id id
   obtain ⟨L1, u, hcell, hfz', hset, h⟩ := putT_sound h hj hb hr
   obtain ⟨x, L', W', h1, h2⟩ := ih _ _ _ c h hset
   refine ⟨x, L', W', ?_, h2⟩
   cases v <;> first | (simp [one] at hone; done) | (simp only [Sem.run, hcell, hfz']; exact h1)
 | new o k ih =>
   intro zs L W c h hr
   obtain ⟨x, L', W', h1, h2⟩ := ih _ _ _ _ c (h ⟨W.heap.size, 0, false, undef, [], []⟩) (hr.push o)
   exact ⟨x, L', W', h1, h2⟩
 | shape r k ih =>
   intro zs L W c h hr
   obtain ⟨⟨n, ct, ow⟩, j, hj, hb, h⟩ := pickT_spec h
   have hb : r = n := hb
   split at h
   ·rename_i cs t f hct
    simp only at hct
    subst hct
    obtain ⟨x, L', W', h1, h2⟩ := ih _ _ _ W c h hr
    refine ⟨x, L', W', ?_, h2⟩
    have hat : W.heap[n]? = some (.cells cs t f) := hr.at hj
    have : W.shape? r = some (t, cs.size) := by subst hb; simp [World.shape?, hat]
    simp only [Sem.run, this]
    exact h1
   ·rename_i t size m' cap xs hct
    simp only at hct
    subst hct
    obtain ⟨x, L', W', h1, h2⟩ := ih _ _ _ W c h hr
    refine ⟨x, L', W', ?_, h2⟩
    obtain ⟨cur, hat, -, -, -, hcs, -⟩ : Cont.sat (.row t size m' cap xs) W.heap[n]? := hr.at hj
    have : W.shape? r = some (t, cap * size) := by subst hb; simp [World.shape?, hat, hcs]
    simp only [Sem.run, this]
    exact h1
   ·exact h.elim
 | freeze a n k ih =>
   intro zs L W c h hr
   obtain ⟨p, j, hj, hb, h⟩ := pickT_spec h
   split at h
   ·rename_i nm cs t f
    split at h
    ·exact h.elim
    ·rename_i hn
     have hn : n ≠ 0 := fun h0 => by rw [h0] at hn; cases hn
     have hb : a.block = nm := hb
     have hat : W.heap[nm]? = some (.cells cs t f) := hr.at hj
     have hset : Rep w0 keep (L.set j ⟨nm, .seg 0 cs.toList, true⟩) (W.freeze a n) := by
      unfold World.freeze
      rw [if_neg hn]
      refine hr.set hj rfl _ rfl rfl rfl (by simp) (fun k hk => ?_) ?_
      ·simp only [Array.getElem?_modify]
       rw [if_neg (by rw [hb]; exact fun h => hk h.symm)]
      ·obtain ⟨lo, hi⟩ := f
       refine ⟨cs, t, if lo == hi then (a.off, a.off + n) else (min lo a.off, max hi (a.off + n)), ?_, fun j u hu => by rw [Nat.zero_add]; exact hu⟩
       show (W.heap.modify a.block _)[nm]? = _
       simp only [Array.getElem?_modify, hb, if_true]
       rw [hat]
       rfl
     obtain ⟨x, L', W', h1, h2⟩ := ih _ _ _ c (setK_spec h).2 hset
     exact ⟨x, L', W', h1, h2⟩
   ·exact h.elim
 | frozen a k ih =>
   intro zs L W c h hr
   obtain ⟨⟨n, ct, ow⟩, j, hj, hb, h⟩ := pickT_spec h
   have hb : a.block = n := hb
   split at h
   ·rename_i cs t lo hi hct
    simp only at hct
    subst hct
    obtain ⟨x, L', W', h1, h2⟩ := ih _ _ _ W c h hr
    refine ⟨x, L', W', ?_, h2⟩
    have hat : W.heap[n]? = some (.cells cs t (lo, hi)) := hr.at hj
    simp only [Sem.run, frozen_of hb hat]
    exact h1
   ·rename_i t size m' cap xs hct
    simp only at hct
    subst hct
    obtain ⟨x, L', W', h1, h2⟩ := ih _ _ _ W c h hr
    refine ⟨x, L', W', ?_, h2⟩
    obtain ⟨cur, hat, -⟩ : Cont.sat (.row t size m' cap xs) W.heap[n]? := hr.at hj
    have : W.frozen? a = false := by rw [frozen_of hb hat]; simp
    simp only [Sem.run, this]
    exact h1
   ·exact h.elim
 | getObj r k ih =>
   intro zs L W c h hr
   obtain ⟨⟨n, ct, ow⟩, j, hj, hb, h⟩ := pickT_spec h
   have hb : r = n := hb
   split at h
   ·exact h.elim
   ·rename_i o hno hct
    simp only at hct
    subst hct
    obtain ⟨x, L', W', h1, h2⟩ := ih _ _ _ W c h hr
    refine ⟨x, L', W', ?_, h2⟩
    have hat : W.heap[n]? = some o := hr.at hj
    subst hb
    simp only [Sem.run, hat]
    cases o <;> first | exact h1 | exact (hno _ _ _ rfl).elim
   ·exact h.elim
 | setObj r o k ih =>
   intro zs L W c h hr
   obtain ⟨p, j, hj, hb, h⟩ := pickT_spec h
   split at h
   ·exact h.elim
   ·rename_i n o1 hno
    have hb : r = n := hb
    have hat : W.heap[n]? = some o1 := hr.at hj
    have hlt : r < W.heap.size := by
     have := hr.lt (List.mem_of_getElem? hj)
     rw [hb]; exact this
    have hset : Rep w0 keep (L.set j ⟨n, .obj o, true⟩) { W with heap := W.heap.setIfInBounds r o } := by
     refine hr.set hj rfl _ rfl rfl rfl (by simp) (fun k hk => ?_) ?_
     ·simp only [Array.getElem?_setIfInBounds]
      rw [if_neg (by rw [hb]; exact fun h => hk h.symm)]
     ·show (W.heap.setIfInBounds r o)[n]? = some o
      simp only [Array.getElem?_setIfInBounds, ← hb, if_true, hlt]
    obtain ⟨x, L', W', h1, h2⟩ := ih _ _ _ c h hset
    refine ⟨x, L', W', ?_, h2⟩
    subst hb
    simp only [Sem.run, hat]
    cases o1 <;> first | exact h1 | exact (hno _ _ _ _ _ rfl).elim
   ·exact h.elim
 | choose q k ih =>
   intro zs L W c h hr
   change (match q.forced with
    | true => _
    | false => _ : T α).all K at h
   split at h
   ·rename_i hf
    obtain ⟨x, L', W', h1, h2⟩ := ih _ _ _ _ c h hr
    refine ⟨x, L', W', ?_, h2⟩
    simp only [Sem.run, hf, if_true]
    exact h1
   ·exact h.elim
 | sys cc k ih => intro zs L W c h; exact h.elim
 | program k ih => intro zs L W c h hr; exact ih _ _ _ _ c h hr
 | mark m k ih => intro zs L W c h hr; exact ih _ _ _ c h hr
 | halt h => intro zs L W c h; exact h.elim
def lread {α β : Type} (s : Sem β) : List Value → List Blk → (β → T α) → T α :=
 @Sem.rec β (fun _ => List Value → List Blk → (β → T α) → T α)
  (fun a _ _ c => c a)
  (fun _ a _ ih zs L c => pickT L a.block fun p _ => match a.spot with
   | some _ => .fail
   | none => loadT zs.head? (p.ct.at a.off) fun v => ih v zs.tail L c)
  (fun _ _ _ _ _ _ _ _ => .fail) (fun _ _ _ _ _ _ => .fail) (fun _ _ _ _ _ _ => .fail) (fun _ _ _ _ _ _ _ => .fail) (fun _ _ _ _ _ _ => .fail)
  (fun r _ ih zs L c => pickT L r fun p _ => match p.ct with
   | .obj (.cells ..) => .fail
   | .obj o => ih o zs L c
   | _ => .fail)
  (fun _ _ _ _ _ _ _ => .fail) (fun _ _ _ _ _ _ => .fail) (fun _ _ _ _ _ _ => .fail)
  (fun _ ih zs L c => ih P zs L c)
  (fun _ _ ih zs L c => ih zs L c)
  (fun _ _ _ _ => .fail)
  s
def There (L : List Blk) (W : World) : Prop := ∀ p ∈ L, p.ct.sat W.heap[p.nm]?
theorem lread_sound {L : List Blk} {α β : Type} {K : α → Prop} (s : Sem β) : ∀ (zs : List Value) (c : β → T α), (lread P s zs L c).all K → ∃ x, (c x).all K ∧ ∀ W, There L W → s.run P W = .ok x W := by
 induction s with
 | pure a => intro zs c h; exact ⟨a, h, fun W _ => rfl⟩
 | load m a k ih =>
   intro zs c h
   obtain ⟨p, j, hj, hb, h⟩ := pickT_spec h
   split at h
   ·exact h.elim
   ·rename_i hs
    obtain ⟨v, hv, h⟩ := loadT_spec h
    obtain ⟨x, hx, h1⟩ := ih v _ c h
    refine ⟨x, hx, fun W hW => ?_⟩
    simp only [Sem.run, cell_at hb (hW _ (List.mem_of_getElem? hj)) hs hv]
    exact h1 W hW
 | getObj r k ih =>
   intro zs c h
   obtain ⟨⟨n, ct, ow⟩, j, hj, hb, h⟩ := pickT_spec h
   have hb : r = n := hb
   split at h
   ·exact h.elim
   ·rename_i o hno hct
    simp only at hct
    subst hct
    obtain ⟨x, hx, h1⟩ := ih _ _ c h
    refine ⟨x, hx, fun W hW => ?_⟩
    have hat : W.heap[n]? = some o := hW _ (List.mem_of_getElem? hj)
    subst hb
    have h2 := h1 W hW
    simp only [Sem.run, hat]
    cases o <;> first | exact h2 | exact (hno _ _ _ rfl).elim
   ·exact h.elim
 | program k ih => intro zs c h; exact ih _ _ c h
 | mark m k ih => intro zs c h; exact ih _ c h
 | _ => intro zs c h; exact h.elim
end Go.Proofs.YtjohknpmhlildaaDoor.Sy
namespace Go.Proofs.YtjohknpmhlildaaDoor.Sy
open Go Go.RowKit
open Ev (one cell_of frozen_of)
def pureOf (P : Program) : Sem Next → Option Value
 | .pure (.value v) => some v
 | .program k => pureOf P (k P)
 | .mark _ k => pureOf P k
 | _ => none
theorem pureOf_spec {P : Program} {s : Sem Next} {v : Value} (h : pureOf P s = some v) (W : World) : s.run P W = .ok (.value v) W := by
 induction s with
 | pure x => cases x <;> simp [pureOf] at h; subst h; rfl
 | program k ih => exact ih _ h
 | mark m k ih => exact ih h
 | _ => simp [pureOf] at h
def storesOf (P : Program) : Sem Next → Option (List (Addr × Value) × Next)
 | .pure x => some ([], x)
 | .store _ a v k => match storesOf P k with
   | some (l, x) => some ((a, v) :: l, x)
   | none => none
 | .program k => storesOf P (k P)
 | .mark _ k => storesOf P k
 | _ => none
def newOf (P : Program) : Sem Next → Option (Obj × (Nat → Sem Next))
 | .new c k => some (c, k)
 | .program k => newOf P (k P)
 | .mark _ k => newOf P k
 | _ => none
theorem newOf_run {P : Program} {s : Sem Next} {c : Obj} {k : Nat → Sem Next} (h : newOf P s = some (c, k)) (W : World) : s.run P W = (k W.heap.size).run P { W with heap := W.heap.push c } := by
 induction s with
 | new c' k' ih => simp only [newOf, Option.some.injEq, Prod.mk.injEq] at h; obtain ⟨rfl, rfl⟩ := h; rfl
 | program k ih => exact ih _ h
 | mark m k ih => exact ih h
 | _ => simp [newOf] at h
theorem newOf_stores {P : Program} {s : Sem Next} {r : Obj × (Nat → Sem Next)} (h : newOf P s = some r) : storesOf P s = none := by
 induction s with
 | new c' k' ih => rfl
 | program k ih => exact ih _ h
 | mark m k ih => exact ih h
 | _ => simp [newOf] at h
def nextVal : Next → Option Value
 | .value v => some v
 | .skip => some undef
 | _ => none
inductive Simple where
 | act (l : List (Addr × Value)) (v : Value)
 | new (c : Obj) (v : Nat → Value)
def pushW (W : World) (c : Obj) : World := { W with heap := W.heap.push c }
def stoOp (o : Oper) : Bool := match o.op with
 | .store .. => true
 | _ => false
def plainOp (o : Oper) : Bool := match o.op with
 | .call c => match c.callee with
   | .builtin _ => true
   | _ => false
 | _ => true
def Does (P : Program) (ops : Array Oper) (o : Oper) (a : Act) : Simple → Prop
 | .act l v => (Region.wanted o (yielded ops a.tmps) = true ∧ (stoOp o = false → l = []) ∧ ∃ nx, storesOf P (execOp a.eval o) = some (l, nx) ∧ nextVal nx = some v) ∨ (Region.wanted o (yielded ops a.tmps) = false ∧ l = [] ∧ v = undef)
 | .new c v => Region.wanted o (yielded ops a.tmps) = true ∧ ∃ k, newOf P (execOp a.eval o) = some (c, k) ∧ ∀ n, pureOf P (k n) = some (v n)
section
variable {P : Program} {ops : Array Oper}
theorem Does.of_same {o : Oper} {a a' : Act} {r : Simple} (h : Does P ops o a r) (he : execOp a'.eval o = execOp a.eval o) (hw : Region.wanted o (yielded ops a'.tmps) = Region.wanted o (yielded ops a.tmps)) : Does P ops o a' r := by
 cases r <;> (unfold Does at *; rw [he, hw]; exact h)
theorem Does.uniq {o : Oper} {a : Act} {r r' : Simple} (h : Does P ops o a r) (h' : Does P ops o a r') : r = r' := by
 cases r with
 | act l v =>
   cases r' with
   | act l' v' =>
     rcases h with ⟨h1, -, nx, h2, h2'⟩ | ⟨h1, rfl, rfl⟩ <;> rcases h' with ⟨h3, -, nx', h4, h4'⟩ | ⟨h3, rfl, rfl⟩
     ·rw [h2] at h4
      simp only [Option.some.injEq, Prod.mk.injEq] at h4
      obtain ⟨rfl, rfl⟩ := h4
      rw [h2'] at h4'
      injection h4' with h4'
      rw [h4']
     ·rw [h1] at h3; cases h3
     ·rw [h1] at h3; cases h3
     ·rfl
   | new c v' =>
     obtain ⟨h3, k, h4, -⟩ := h'
     rcases h with ⟨h1, -, nx, h2, h2'⟩ | ⟨h1, rfl, rfl⟩
     ·rw [newOf_stores h4] at h2; cases h2
     ·rw [h1] at h3; cases h3
 | new c v =>
   obtain ⟨h1, k, h2, hv⟩ := h
   cases r' with
   | act l' v' =>
     rcases h' with ⟨h3, -, nx, h4, -⟩ | ⟨h3, rfl, rfl⟩
     ·rw [newOf_stores h2] at h4; cases h4
     ·rw [h1] at h3; cases h3
   | new c' v' =>
     obtain ⟨h3, k', h4, hv'⟩ := h'
     rw [h2] at h4
     simp only [Option.some.injEq, Prod.mk.injEq] at h4
     obtain ⟨rfl, rfl⟩ := h4
     have hv : v = v' := by
      funext n
      have h5 := (hv n).symm.trans (hv' n)
      injection h5
     rw [hv]
def FreeAt (ops : Array Oper) (listed : Array Bool) (i : Nat) (oi : Oper) : Prop :=
 ∀ j oj, ops[j]? = some oj → j ≠ i → listed.getD j true = false → (∀ e ∈ oj.after, Region.binds .any e = true → e.on ≠ i) → oi.apart ops oj = true
theorem FreeAt.more {listed : Array Bool} {i j : Nat} {oi : Oper} (h : FreeAt ops listed i oi) : FreeAt ops (listed.setIfInBounds j true) i oi := fun k ok hk hki hun hno => by
 refine h k ok hk hki ?_ hno
 by_cases hjk : j = k
 ·subst hjk
  rcases Nat.lt_or_ge j listed.size with h' | h'
  ·simp [h'] at hun
  ·simp [Nat.not_lt.2 h'] at hun
 ·rwa [getD_set_ne true hjk] at hun
abbrev News := Nat → Option Obj
def putN (N : News) (n : Nat) (c : Obj) : News := fun k => if k = n then some c else N k
theorem putN_comm {N : News} {n m : Nat} {c d : Obj} (h : n ≠ m) : putN (putN N n c) m d = putN (putN N m d) n c := by
 funext k
 simp only [putN]
 by_cases h1 : k = m <;> by_cases h2 : k = n <;> simp [h1, h2]
 ·subst h1 h2; exact absurd rfl h
 ·subst h1; simp_all
 ·subst h2; simp_all
def sto1 (N : News) (p : Addr × Value) : Option News := match N p.1.block with
 | some (.cells c t (lo, hi)) => match p.1.spot, one p.2 with
   | none, true => match c.toList[p.1.off]?, (decide (lo ≤ p.1.off) && decide (p.1.off < hi)) with
     | some _, false => some (putN N p.1.block (.cells (c.setIfInBounds p.1.off p.2) t (lo, hi)))
     | _, _ => none
   | _, _ => none
 | _ => none
def stos : News → List (Addr × Value) → Option News
 | N, [] => some N
 | N, p :: r => match sto1 N p with
   | some N' => stos N' r
   | none => none
theorem sto1_spec {N N' : News} {p : Addr × Value} (h : sto1 N p = some N') : ∃ c t lo hi u, N p.1.block = some (.cells c t (lo, hi)) ∧ p.1.spot = none ∧ one p.2 = true ∧ c.toList[p.1.off]? = some u ∧ (decide (lo ≤ p.1.off) && decide (p.1.off < hi)) = false ∧ N' = putN N p.1.block (.cells (c.setIfInBounds p.1.off p.2) t (lo, hi)) := by
 unfold sto1 at h
 split at h
 ·rename_i c t lo hi hN
  split at h
  ·rename_i hs ho
   split at h
   ·rename_i u hu hf
    injection h with h
    exact ⟨c, t, lo, hi, u, hN, hs, ho, hu, hf, h.symm⟩
   ·cases h
  ·cases h
 ·cases h
theorem sto1_of {N : News} {p : Addr × Value} {c : Array Value} {t : TypeId} {lo hi : Nat} {u : Value} (h1 : N p.1.block = some (.cells c t (lo, hi))) (h2 : p.1.spot = none) (h3 : one p.2 = true) (h4 : c.toList[p.1.off]? = some u) (h5 : (decide (lo ≤ p.1.off) && decide (p.1.off < hi)) = false) :
  sto1 N p = some (putN N p.1.block (.cells (c.setIfInBounds p.1.off p.2) t (lo, hi))) := by
 unfold sto1
 simp only [h1, h2, h3, h4, h5]
theorem sto1_dom {N N' : News} {p : Addr × Value} (h : sto1 N p = some N') (k : Nat) : N' k = none ↔ N k = none := by
 obtain ⟨c, t, lo, hi, u, h1, -, -, -, -, rfl⟩ := sto1_spec h
 simp only [putN]
 split
 ·rename_i hk; subst hk; simp [h1]
 ·exact Iff.rfl
theorem stos_dom : ∀ {l : List (Addr × Value)} {N N' : News}, stos N l = some N' → ∀ k, N' k = none ↔ N k = none
 | [], N, N', h, k => by simp only [stos, Option.some.injEq] at h; rw [h]
 | p :: r, N, N', h, k => by
   simp only [stos] at h
   split at h
   ·rename_i N1 h1
    exact (stos_dom h k).trans (sto1_dom h1 k)
   ·cases h
theorem stos_in : ∀ {l : List (Addr × Value)} {N N' : News}, stos N l = some N' → ∀ p ∈ l, N p.1.block ≠ none
 | [], N, N', h, p, hp => by cases hp
 | q :: r, N, N', h, p, hp => by
   simp only [stos] at h
   split at h
   ·rename_i N1 h1
    rcases List.mem_cons.1 hp with rfl | hp
    ·obtain ⟨c, t, lo, hi, u, h2, -⟩ := sto1_spec h1
     rw [h2]; exact nofun
    ·exact fun h0 => stos_in h p hp ((sto1_dom h1 _).2 h0)
   ·cases h
theorem sto1_put {N : News} {p : Addr × Value} {n : Nat} {c : Obj} (hne : p.1.block ≠ n) : sto1 (putN N n c) p = (sto1 N p).map fun N' => putN N' n c := by
 have h0 : putN N n c p.1.block = N p.1.block := by simp [putN, hne]
 unfold sto1
 rw [h0]
 split
 ·split
  ·split
   ·simp only [Option.map_some]
    rw [putN_comm (Ne.symm hne)]
   ·rfl
  ·rfl
 ·rfl
theorem stos_put : ∀ {l : List (Addr × Value)} {N : News} {n : Nat} {c : Obj}, (∀ p ∈ l, p.1.block ≠ n) → stos (putN N n c) l = (stos N l).map fun N' => putN N' n c
 | [], N, n, c, h => rfl
 | p :: r, N, n, c, h => by
   simp only [stos, sto1_put (h p Sy.mH)]
   cases sto1 N p with
   | none => rfl
   | some N1 => exact stos_put (fun q hq => h q (Sy.mC _ hq))
def After (K : Array Bool → Act → News → Prop) (listed : Array Bool) (a : Act) (N : News) (i : Nat) (o : Oper) : Simple → Prop
 | .act l v => ∃ N', stos N l = some N' ∧ K (listed.setIfInBounds i true) (a.put o.dst v) N'
 | .new c v => ∀ n, N n = none → K (listed.setIfInBounds i true) (a.put o.dst (v n)) (putN N n c)
def AllPlain (ops : Array Oper) (listed : Array Bool) : Prop := ∀ i o, ops[i]? = some o → listed.getD i true = false → plainOp o = false
def Ordered (ops : Array Oper) (listed : Array Bool) : Prop := ∀ i p o q, ops[i]? = some o → listed.getD i true = false → plainOp o = false → ops[p]? = some q → listed.getD p true = false → plainOp q = true →
 ∃ e ∈ o.after, Region.binds .any e = true ∧ e.on = p
def Chain (ops : Array Oper) (listed : Array Bool) : Prop := ∀ i p o q, i ≠ p → ops[i]? = some o → listed.getD i true = false → stoOp o = true → ops[p]? = some q → listed.getD p true = false → stoOp q = true →
 (∃ e ∈ o.after, Region.binds .any e = true ∧ e.on = p) ∨ (∃ e ∈ q.after, Region.binds .any e = true ∧ e.on = i)
theorem getD_set_of {listed : Array Bool} {i j : Nat} (h : (listed.setIfInBounds j true).getD i true = false) : listed.getD i true = false := by
 by_cases hjk : j = i
 ·subst hjk
  rcases Nat.lt_or_ge j listed.size with h' | h'
  ·simp [h'] at h
  ·simp [Nat.not_lt.2 h'] at h
 ·rwa [getD_set_ne true hjk] at h
theorem Ordered.more {listed : Array Bool} (h : Ordered ops listed) (j : Nat) : Ordered ops (listed.setIfInBounds j true) := fun i p o q h1 h2 h3 h4 h5 h6 => h i p o q h1 (getD_set_of h2) h3 h4 (getD_set_of h5) h6
theorem getD_of_ready {listed : Array Bool} {i : Nat} (h : i ∈ Region.ready .any ops listed) : listed.getD i true = false := (mem_ready.1 h).1
theorem Ordered.plain {listed : Array Bool} (h : Ordered ops listed) {i j : Nat} {o oj : Oper} (hi : ops[i]? = some o) (hiu : listed.getD i true = false) (hp : plainOp o = true) (hj : j ∈ Region.ready .any ops listed) (hoj : ops[j]? = some oj) : plainOp oj = true := by
 cases hq : plainOp oj with
 | true => rfl
 | false =>
   obtain ⟨e, he, hb, heq⟩ := h j i oj o hoj (getD_of_ready hj) hq hi hiu hp
   obtain ⟨_, o', ho', hall⟩ := mem_ready.1 hj
   rw [hoj] at ho'
   injection ho' with ho'
   subst ho'
   have h1 := hall e he hb
   rw [heq] at h1
   rcases Nat.lt_or_ge i listed.size with h' | h'
   ·simp [h'] at hiu h1; rw [hiu] at h1; cases h1
   ·simp [Array.getElem?_eq_none h'] at h1
theorem Chain.more {listed : Array Bool} (h : Chain ops listed) (j : Nat) : Chain ops (listed.setIfInBounds j true) := fun i p o q h0 h1 h2 h3 h4 h5 h6 => h i p o q h0 h1 (getD_set_of h2) h3 h4 (getD_set_of h5) h6
def CanK (P : Program) (ops : Array Oper) (Fin : Nat → Array Bool → Act → News → Prop) : Nat → Array Bool → Act → News → Prop
 | 0, listed, a, N => AllPlain ops listed ∧ Fin 0 listed a N
 | k + 1, listed, a, N => (AllPlain ops listed ∧ Fin (k + 1) listed a N) ∨
   ∃ i o r, ops[i]? = some o ∧ plainOp o = true ∧ i ∈ Region.ready .any ops listed ∧ FreeAt ops listed i o ∧ Does P ops o a r ∧ After (CanK P ops Fin k) listed a N i o r
variable {Fin : Nat → Array Bool → Act → News → Prop}
theorem not_waits {listed : Array Bool} {i j : Nat} {oj : Oper} (hi : i ∈ Region.ready .any ops listed) (hj : j ∈ Region.ready .any ops listed) (hoj : ops[j]? = some oj) : ∀ e ∈ oj.after, Region.binds .any e = true → e.on ≠ i := fun e he hb heq => by
 obtain ⟨_, o, ho, hall⟩ := mem_ready.1 hj
 rw [hoj] at ho
 injection ho with ho
 subst ho
 have h1 := hall e he hb
 have h0 := (mem_ready.1 hi).1
 rw [heq] at h1
 rcases Nat.lt_or_ge i listed.size with h' | h'
 ·simp [h'] at h0 h1; rw [h0] at h1; cases h1
 ·simp [Array.getElem?_eq_none h'] at h1
theorem Chain.one {listed : Array Bool} (h : Chain ops listed) {i j : Nat} {o oj : Oper} (hi : i ∈ Region.ready .any ops listed) (ho : ops[i]? = some o) (hj : j ∈ Region.ready .any ops listed) (hoj : ops[j]? = some oj) (hne : i ≠ j) : stoOp o = false ∨ stoOp oj = false := by
 cases h1 : stoOp o with
 | false => exact .inl rfl
 | true =>
   cases h2 : stoOp oj with
   | false => exact .inr rfl
   | true =>
     rcases h i j o oj hne ho (getD_of_ready hi) h1 hoj (getD_of_ready hj) h2 with ⟨e, he, hb, hon⟩ | ⟨e, he, hb, hon⟩
     ·exact absurd hon (not_waits hj hi ho e he hb)
     ·exact absurd hon (not_waits hi hj hoj e he hb)
theorem Does.nil {o : Oper} {a : Act} {l : List (Addr × Value)} {v : Value} (h : Does P ops o a (.act l v)) (hs : stoOp o = false) : l = [] := by
 rcases h with ⟨-, h, -⟩ | ⟨-, h, -⟩
 ·exact h hs
 ·exact h
theorem exists_fresh (B : Nat) (l : List (Addr × Value)) : ∃ n, B ≤ n ∧ ∀ p ∈ l, p.1.block ≠ n := by
 induction l generalizing B with
 | nil => exact ⟨B, Nat.le_refl _, fun _ h => by cases h⟩
 | cons p r ih =>
   obtain ⟨n, h1, h2⟩ := ih (max B (p.1.block + 1))
   refine ⟨n, by omega, fun q hq => ?_⟩
   rcases List.mem_cons.1 hq with rfl | hq
   ·omega
   ·exact h2 q hq
def Bounded (N : News) : Prop := ∃ B, ∀ k, B ≤ k → N k = none
theorem Bounded.put {N : News} (h : Bounded N) (n : Nat) (c : Obj) : Bounded (putN N n c) := by
 obtain ⟨B, h⟩ := h
 refine ⟨max B (n + 1), fun k hk => ?_⟩
 simp only [putN]
 rw [if_neg (by omega)]
 exact h k (by omega)
theorem Bounded.stos {N N' : News} (h : Bounded N) {l : List (Addr × Value)} (hs : stos N l = some N') : Bounded N' := by
 obtain ⟨B, h⟩ := h
 exact ⟨B, fun k hk => (stos_dom hs k).2 (h k hk)⟩
theorem swap (hs : Region.noSelect ops = true) : ∀ {k : Nat} {listed : Array Bool} {a : Act} {N : News} {j : Nat} {oj : Oper}, Chain ops listed → Bounded N → CanK P ops Fin (k + 1) listed a N → j ∈ Region.ready .any ops listed → ops[j]? = some oj → plainOp oj = true →
  ∃ r, Does P ops oj a r ∧ After (CanK P ops Fin k) listed a N j oj r := by
 intro k
 induction k with
 | zero =>
   intro listed a N j oj hch hB h hj hoj hpj
   rcases h with h | ⟨i, o, r, h1, h1p, h2, h3, h4, h5⟩
   ·rw [h.1 j oj hoj (getD_of_ready hj)] at hpj; cases hpj
   ·by_cases hji : j = i
    ·subst hji
     rw [hoj] at h1
     injection h1 with h1
     subst h1
     exact ⟨r, h4, h5⟩
    ·have h6 := ready_mono hj hji
     have : AllPlain ops (listed.setIfInBounds i true) := by
      cases r with
      | act l v => obtain ⟨N', -, h5⟩ := h5; exact h5.1
      | new c v =>
        obtain ⟨B, hB⟩ := hB
        exact (h5 B (hB B (Nat.le_refl _))).1
     rw [this j oj hoj (getD_of_ready h6)] at hpj; cases hpj
 | succ k ih =>
   intro listed a N j oj hch hB h hj hoj hpj
   rcases h with h | ⟨i, o, r, h1, h1p, h2, h3, h4, h5⟩
   ·rw [h.1 j oj hoj (getD_of_ready hj)] at hpj; cases hpj
   by_cases hji : j = i
   ·subst hji
    rw [hoj] at h1
    injection h1 with h1
    subst h1
    exact ⟨r, h4, h5⟩
   have h6 := ready_mono hj hji
   obtain ⟨p1, p2, p3⟩ := Oper.apart_spec (h3 j oj hoj hji (mem_ready.1 hj).1 (not_waits h2 hj hoj))
   have back : ∀ (u : Value) {r : Simple}, Does P ops oj (a.put o.dst u) r → Does P ops oj a r := fun u r hd =>
    hd.of_same (execOp_put oj (Region.noSelect_spec hs j oj · · hoj) a o.dst u p1).symm (wanted_put oj a o.dst u p1).symm
   have forth : ∀ (u : Value), Does P ops o (a.put oj.dst u) r := fun u =>
    h4.of_same (execOp_put o (Region.noSelect_spec hs i o · · h1) a oj.dst u p3) (wanted_put o a oj.dst u p3)
   have hri : i ∈ Region.ready .any ops (listed.setIfInBounds j true) := ready_mono h2 (Ne.symm hji)
   have hset : (listed.setIfInBounds i true).setIfInBounds j true = (listed.setIfInBounds j true).setIfInBounds i true := Array.setIfInBounds_comm _ _ (fun h => hji h.symm)
   have hput : ∀ u v : Value, (a.put o.dst u).put oj.dst v = (a.put oj.dst v).put o.dst u := fun u v => (Act.put_comm a u v p2)
   have hone := hch.one h2 h1 hj hoj (Ne.symm hji)
   cases r with
   | act l v =>
     obtain ⟨Ni, hNi, h5⟩ := h5
     obtain ⟨rj, hd, ha⟩ := ih (hch.more i) (hB.stos hNi) h5 h6 hoj hpj
     have hd0 := back v hd
     refine ⟨rj, hd0, ?_⟩
     cases rj with
     | act lj vj =>
       obtain ⟨Nj, hNj, ha⟩ := ha
       rw [hset, hput] at ha
       rcases hone with h0 | h0
       ·obtain rfl := h4.nil h0
        simp only [stos, Option.some.injEq] at hNi
        subst hNi
        exact ⟨Nj, hNj, .inr ⟨i, o, .act [] v, h1, h1p, hri, h3.more, forth vj, Nj, rfl, ha⟩⟩
       ·obtain rfl := hd0.nil h0
        simp only [stos, Option.some.injEq] at hNj
        subst hNj
        exact ⟨N, rfl, .inr ⟨i, o, .act l v, h1, h1p, hri, h3.more, forth vj, Ni, hNi, ha⟩⟩
     | new c vj =>
       intro n hn
       refine .inr ⟨i, o, .act l v, h1, h1p, hri, h3.more, forth _, putN Ni n c, ?_, ?_⟩
       ·rw [stos_put (fun p hp he => stos_in hNi p hp (by rw [he]; exact hn)), hNi]; rfl
       ·rw [← hset, ← hput]; exact ha n ((stos_dom hNi n).2 hn)
   | new c v =>
     have hB' := hB
     obtain ⟨B, hB'⟩ := hB'
     obtain ⟨rj, hd, _⟩ := ih (hch.more i) (hB.put B c) (h5 B (hB' B (Nat.le_refl _))) h6 hoj hpj
     have hd0 := back _ hd
     refine ⟨rj, hd0, ?_⟩
     have key : ∀ n, N n = none → After (CanK P ops Fin k) (listed.setIfInBounds i true) (a.put o.dst (v n)) (putN N n c) j oj rj := fun n hn => by
      obtain ⟨r', hd', ha'⟩ := ih (hch.more i) (hB.put n c) (h5 n hn) h6 hoj hpj
      rw [hd0.uniq (back _ hd')]
      exact ha'
     cases rj with
     | act lj vj =>
       obtain ⟨n0, hn0, hf0⟩ := exists_fresh B lj
       obtain ⟨N1, hN1, -⟩ := key n0 (hB' n0 hn0)
       rw [stos_put hf0] at hN1
       cases hN2 : stos N lj with
       | none => rw [hN2] at hN1; cases hN1
       | some N2 =>
         refine ⟨N2, hN2, .inr ⟨i, o, .new c v, h1, h1p, hri, h3.more, forth vj, fun n hn => ?_⟩⟩
         have hn' := (stos_dom hN2 n).1 hn
         obtain ⟨N3, hN3, ha⟩ := key n hn'
         rw [stos_put (fun p hp he => stos_in hN2 p hp (by rw [he]; exact hn')), hN2] at hN3
         simp only [Option.map_some, Option.some.injEq] at hN3
         subst hN3
         rw [← hset, ← hput]
         exact ha
     | new c' vj =>
       intro m hm
       refine .inr ⟨i, o, .new c v, h1, h1p, hri, h3.more, forth _, fun n hn => ?_⟩
       have hnm : n ≠ m := fun he => by subst he; simp [putN] at hn
       have hn' : N n = none := by simpa [putN, hnm] using hn
       rw [← hset, ← hput, ← putN_comm hnm]
       exact key n hn' m (by simp [putN, Ne.symm hnm, hm])
structure Grown (w1 : World) (N : News) (W : World) : Prop where
 os : W.os = w1.os
 tape : W.tape = w1.tape
 output : W.output = w1.output
 size : w1.heap.size ≤ W.heap.size
 old : ∀ k, k < w1.heap.size → W.heap[k]? = w1.heap[k]?
 blk : ∀ k o, N k = some o → w1.heap.size ≤ k ∧ W.heap[k]? = some o
theorem Grown.fresh {w1 W : World} {N : News} (h : Grown w1 N W) : N W.heap.size = none := by
 cases hN : N W.heap.size with
 | none => rfl
 | some o =>
   have := (h.blk _ _ hN).2
   rw [Array.getElem?_eq_none (Nat.le_refl _)] at this
   cases this
theorem Grown.bounded {w1 W : World} {N : News} (h : Grown w1 N W) : Bounded N := ⟨W.heap.size, fun k hk => by
 cases hN : N k with
 | none => rfl
 | some o =>
   have := (h.blk _ _ hN).2
   rw [Array.getElem?_eq_none hk] at this
   cases this⟩
theorem Grown.push {w1 W : World} {N : News} (c : Obj) (h : Grown w1 N W) : Grown w1 (putN N W.heap.size c) (pushW W c) := by
 refine ⟨h.os, h.tape, h.output, ?_, fun k hk => ?_, fun k o hk => ?_⟩
 ·show w1.heap.size ≤ (W.heap.push c).size
  have := h.size
  simp; omega
 ·show (W.heap.push c)[k]? = _
  have := h.size
  rw [Array.getElem?_push, if_neg (by omega)]
  exact h.old k hk
 ·simp only [putN] at hk
  show _ ∧ (W.heap.push c)[k]? = _
  split at hk
  ·rename_i he
   subst he
   exact ⟨h.size, by simpa using hk⟩
  ·rename_i hne
   obtain ⟨h1, h2⟩ := h.blk k o hk
   exact ⟨h1, by rw [Array.getElem?_push, if_neg hne]; exact h2⟩
theorem Grown.sto {w1 W : World} {N N' : News} {p : Addr × Value} (h : Grown w1 N W) (hs : sto1 N p = some N') : ∃ u, W.cell? p.1 = some u ∧ W.frozen? p.1 = false ∧ one p.2 = true ∧ Grown w1 N' (W.setCell p.1 p.2) := by
 obtain ⟨c, t, lo, hi, u, h1, h2, h3, h4, h5, rfl⟩ := sto1_spec hs
 obtain ⟨hb, hat⟩ := h.blk _ _ h1
 have hcell : W.cell? p.1 = some u := by rw [cell_of rfl hat h2]; simpa using h4
 have hfz : W.frozen? p.1 = false := by rw [frozen_of rfl hat]; exact h5
 refine ⟨u, hcell, hfz, h3, h.os, h.tape, h.output, by simpa [World.setCell] using h.size, fun k hk => ?_, fun k o hk => ?_⟩
 ·simp only [World.setCell, Array.getElem?_modify]
  rw [if_neg (by omega)]
  exact h.old k hk
 ·simp only [putN] at hk
  simp only [World.setCell, Array.getElem?_modify]
  split at hk
  ·rename_i he
   subst he
   injection hk with hk
   subst hk
   refine ⟨hb, ?_⟩
   rw [if_pos rfl, hat]
   simp [h2]
  ·rename_i hne
   rw [if_neg (fun he => hne he.symm)]
   exact h.blk k o hk
theorem stores_run {s : Sem Next} : ∀ {w1 W : World} {N N' : News} {l : List (Addr × Value)} {nx : Next}, storesOf P s = some (l, nx) → Grown w1 N W → stos N l = some N' → ∃ W', s.run P W = .ok nx W' ∧ Grown w1 N' W' := by
 induction s with
 | pure x =>
   intro w1 W N N' l nx h hg hs
   simp only [storesOf, Option.some.injEq, Prod.mk.injEq] at h
   obtain ⟨rfl, rfl⟩ := h
   simp only [stos, Option.some.injEq] at hs
   subst hs
   exact ⟨W, rfl, hg⟩
 | store m a v k ih =>
   intro w1 W N N' l nx h hg hs
   simp only [storesOf] at h
   split at h
   ·rename_i l' x hk
    simp only [Option.some.injEq, Prod.mk.injEq] at h
    obtain ⟨rfl, rfl⟩ := h
    simp only [stos] at hs
    split at hs
    ·rename_i N1 h1
     obtain ⟨u, hcell, hfz, hone, hg1⟩ := hg.sto h1
     obtain ⟨W', h2, h3⟩ := ih hk hg1 hs
     refine ⟨W', ?_, h3⟩
     cases v <;> first | (simp [one] at hone; done) | (simp only [Sem.run, hcell, hfz]; exact h2)
    ·cases hs
   ·cases h
 | program k ih => intro w1 W N N' l nx h hg hs; exact ih _ h hg hs
 | mark m k ih => intro w1 W N N' l nx h hg hs; exact ih h hg hs
 | _ => intro w1 W N N' l nx h; simp [storesOf] at h
def wpAnyX (P : Program) (ops : Array Oper) (Q : Exit → Act → World → Prop) (S : World → Prop) (fin : Nat → Prop) : Nat → Array Bool → Act → World → Prop
 | 0, listed, a, w => Region.ready .any ops listed = [] ∧ Q .normal a w
 | fuel + 1, listed, a, w =>
   (Region.ready .any ops listed = [] → Q .normal a w) ∧
   ∀ i ∈ Region.ready .any ops listed, wpOp P ops Q i (fun a' w' => (fin i ∨ (S w → S w')) ∧ wpAnyX P ops Q S fin fuel (listed.setIfInBounds i true) a' w') a w
section anyX
variable {P : Program} {ops : Array Oper} {Q : Exit → Act → World → Prop} {S : World → Prop} {fin : Nat → Prop}
theorem wpAny_of_X : ∀ (fuel : Nat) (listed : Array Bool) (a : Act) (w : World), wpAnyX P ops Q S fin fuel listed a w → wpAny P .any ops Q fuel listed a w
 | 0, _, _, _, h => h
 | fuel + 1, _, _, _, h => ⟨h.1, fun i hi => wpOp_mono (fun a' w' h' => wpAny_of_X fuel _ a' w' h'.2) (h.2 i hi)⟩
inductive Waits (ops : Array Oper) (i : Nat) : Nat → Prop where
 | direct {j : Nat} {oj : Oper} {e : Edge} (hj : ops[j]? = some oj) (he : e ∈ oj.after) (hb : Region.binds .any e = true) (ho : e.on = i) : Waits ops i j
 | step {j : Nat} {oj : Oper} {e : Edge} (hj : ops[j]? = some oj) (he : e ∈ oj.after) (hb : Region.binds .any e = true) (h : Waits ops i e.on) : Waits ops i j
def ClosedL (ops : Array Oper) (listed : Array Bool) : Prop := ∀ (j : Nat) (oj : Oper), ops[j]? = some oj → listed.getD j false = true → ∀ e ∈ oj.after, Region.binds .any e = true → listed.getD e.on false = true
theorem ClosedL.waits {listed : Array Bool} (h : ClosedL ops listed) {i : Nat} : ∀ {j : Nat}, Waits ops i j → listed.getD j false = true → listed.getD i false = true := by
 intro j hw
 induction hw with
 | direct hj he hb ho => intro hl; rw [← ho]; exact h _ _ hj hl _ he hb
 | step hj he hb _ ih => intro hl; exact ih (h _ _ hj hl _ he hb)
theorem ClosedL.ready {listed : Array Bool} (h : ClosedL ops listed) {i j : Nat} (hw : Waits ops i j) (hj : j ∈ Region.ready .any ops listed) : listed.getD i false = true := by
 obtain ⟨-, oj, hoj, hall⟩ := mem_ready.1 hj
 cases hw with
 | direct h1 he hb ho =>
   rw [hoj] at h1
   injection h1 with h1
   subst h1
   rw [← ho]
   exact hall _ he hb
 | step h1 he hb hw =>
   rw [hoj] at h1
   injection h1 with h1
   subst h1
   exact h.waits hw (hall _ he hb)
theorem ClosedL.set {listed : Array Bool} (h : ClosedL ops listed) {j : Nat} (hj : j ∈ Region.ready .any ops listed) : ClosedL ops (listed.setIfInBounds j true) := by
 intro k ok hk hl e he hb
 have hup : ∀ n : Nat, listed.getD n false = true → (listed.setIfInBounds j true).getD n false = true := fun n hn => by
  by_cases hjn : j = n
  ·subst hjn
   rcases Nat.lt_or_ge j listed.size with h' | h'
   ·simp [h']
   ·simp [Array.getElem?_eq_none h'] at hn
  ·rw [getD_set_ne false hjn]; exact hn
 by_cases hjk : j = k
 ·subst hjk
  obtain ⟨-, oj, hoj, hall⟩ := mem_ready.1 hj
  rw [hoj] at hk
  injection hk with hk
  subst hk
  exact hup _ (hall e he hb)
 ·rw [getD_set_ne false hjk] at hl
  exact hup _ (h k ok hk hl e he hb)
theorem Waits.trans {i k f : Nat} (h1 : Waits ops i k) (h2 : Waits ops k f) : Waits ops i f := by
 induction h2 with
 | direct hj he hb ho => exact .step hj he hb (by rw [ho]; exact h1)
 | step hj he hb _ ih => exact .step hj he hb ih
theorem wpAnyX_first {i : Nat} {oi : Oper} {v : Value} (hi : ops[i]? = some oi) (hsel : ∀ (j : Nat) (o : Oper) cs b, ops[j]? = some o → o.op ≠ .select cs b)
  (hQ : ∀ c a w, Q (.panic c) (a.put oi.dst v) w → Q (.panic c) a w) (hfin : ∀ j oj, fin j → ops[j]? = some oj → Waits ops i j) :
  ∀ (fuel : Nat) (listed : Array Bool) (a : Act) (w : World), ClosedL ops listed →
   (∀ j oj, ops[j]? = some oj → j ≠ i → listed.getD j true = false → (∀ e ∈ oj.after, Region.binds .any e = true → e.on ≠ i) → oi.apart ops oj = true) →
   i ∈ Region.ready .any ops listed → YieldsIf P ops S oi v a → S w →
   wpAnyX P ops Q S fin fuel (listed.setIfInBounds i true) (a.put oi.dst v) w → wpAnyX P ops Q S fin (fuel + 1) listed a w := by
 intro fuel
 induction fuel with
 | zero =>
   intro listed a w _ _ hr hy hS H
   refine ⟨fun h => (by rw [h] at hr; cases hr), fun j hj => ?_⟩
   by_cases hji : j = i
   ·subst hji; exact hy.wpOp hi hS ⟨.inr fun _ => hS, H⟩
   ·have := ready_mono hj hji
    rw [H.1] at this
    cases this
 | succ fuel ih =>
   intro listed a w hcl hfree hr hy hS H
   refine ⟨fun h => (by rw [h] at hr; cases hr), fun j hj => ?_⟩
   by_cases hji : j = i
   ·subst hji; exact hy.wpOp hi hS ⟨.inr fun _ => hS, H⟩
   ·have h1 := H.2 j (ready_mono hj hji)
    obtain ⟨hjun, oj, hoj, hall⟩ := mem_ready.1 hj
    have hnot : ∀ e ∈ oj.after, Region.binds .any e = true → e.on ≠ i := fun e he hb heq => by
     have h1 := hall e he hb
     have h0 := (mem_ready.1 hr).1
     rw [heq] at h1
     rcases Nat.lt_or_ge i listed.size with h' | h'
     ·simp [h'] at h0 h1; rw [h0] at h1; cases h1
     ·simp [Array.getElem?_eq_none h'] at h1
    have hnf : ¬ fin j := fun hf => by
     have h1 := hcl.ready (hfin j oj hf hoj) hj
     have h0 := (mem_ready.1 hr).1
     rcases Nat.lt_or_ge i listed.size with h' | h'
     ·simp [h'] at h0 h1; rw [h0] at h1; cases h1
     ·simp [Array.getElem?_eq_none h'] at h0
    have h2 := wpOp_putIf hoj (hfree j oj hoj hji hjun hnot) (fun cs b => hsel i oi cs b hi) (fun cs b => hsel j oj cs b hoj) hQ hy h1
    have hfree' : ∀ k ok, ops[k]? = some ok → k ≠ i → (listed.setIfInBounds j true).getD k true = false →
      (∀ e ∈ ok.after, Region.binds .any e = true → e.on ≠ i) → oi.apart ops ok = true := fun k ok hk hki hun hno => by
     refine hfree k ok hk hki ?_ hno
     by_cases hjk : j = k
     ·subst hjk; exact hjun
     ·rw [getD_set_ne true hjk] at hun; exact hun
    refine wpOp_mono (fun a' w' h3 => ?_) h2
    have hS' := (h3.2.1.resolve_left hnf) hS
    refine ⟨.inr fun _ => hS', ih (listed.setIfInBounds j true) a' w' (hcl.set hj) hfree' (ready_mono hr (Ne.symm hji)) h3.1 hS' ?_⟩
    rw [Array.setIfInBounds_comm _ _ hji]
    exact h3.2.2
theorem wpAnyX_firstP {i : Nat} {oi : Oper} {v : Value} (hi : ops[i]? = some oi) (hsel : ∀ (j : Nat) (o : Oper) cs b, ops[j]? = some o → o.op ≠ .select cs b)
  (hQ : ∀ c a w, Q (.panic c) (a.put oi.dst v) w → Q (.panic c) a w) :
  ∀ (fuel : Nat) (listed : Array Bool) (a : Act) (w : World),
   (∀ j oj, ops[j]? = some oj → j ≠ i → listed.getD j true = false → (∀ e ∈ oj.after, Region.binds .any e = true → e.on ≠ i) → oi.apart ops oj = true) →
   i ∈ Region.ready .any ops listed → YieldsIf P ops (fun _ => True) oi v a →
   wpAnyX P ops Q S fin fuel (listed.setIfInBounds i true) (a.put oi.dst v) w → wpAnyX P ops Q S fin (fuel + 1) listed a w := by
 intro fuel
 induction fuel with
 | zero =>
   intro listed a w _ hr hy H
   refine ⟨fun h => (by rw [h] at hr; cases hr), fun j hj => ?_⟩
   by_cases hji : j = i
   ·subst hji; exact hy.wpOp hi trivial ⟨.inr fun h => h, H⟩
   ·have := ready_mono hj hji
    rw [H.1] at this
    cases this
 | succ fuel ih =>
   intro listed a w hfree hr hy H
   refine ⟨fun h => (by rw [h] at hr; cases hr), fun j hj => ?_⟩
   by_cases hji : j = i
   ·subst hji; exact hy.wpOp hi trivial ⟨.inr fun h => h, H⟩
   ·have h1 := H.2 j (ready_mono hj hji)
    obtain ⟨hjun, oj, hoj, hall⟩ := mem_ready.1 hj
    have hnot : ∀ e ∈ oj.after, Region.binds .any e = true → e.on ≠ i := fun e he hb heq => by
     have h1 := hall e he hb
     have h0 := (mem_ready.1 hr).1
     rw [heq] at h1
     rcases Nat.lt_or_ge i listed.size with h' | h'
     ·simp [h'] at h0 h1; rw [h0] at h1; cases h1
     ·simp [Array.getElem?_eq_none h'] at h1
    have h2 := wpOp_putIf hoj (hfree j oj hoj hji hjun hnot) (fun cs b => hsel i oi cs b hi) (fun cs b => hsel j oj cs b hoj) hQ hy h1
    have hfree' : ∀ k ok, ops[k]? = some ok → k ≠ i → (listed.setIfInBounds j true).getD k true = false →
      (∀ e ∈ ok.after, Region.binds .any e = true → e.on ≠ i) → oi.apart ops ok = true := fun k ok hk hki hun hno => by
     refine hfree k ok hk hki ?_ hno
     by_cases hjk : j = k
     ·subst hjk; exact hjun
     ·rw [getD_set_ne true hjk] at hun; exact hun
    refine wpOp_mono (fun a' w' h3 => ?_) h2
    refine ⟨h3.2.1, ih (listed.setIfInBounds j true) a' w' hfree' (ready_mono hr (Ne.symm hji)) h3.1 ?_⟩
    rw [Array.setIfInBounds_comm _ _ hji]
    exact h3.2.2
theorem wpAnyX_takeP {i : Nat} {oi : Oper} {v : Value} {fuel : Nat} {listed : Array Bool} {a : Act} {w : World} (hi : ops[i]? = some oi)
  (hs : Region.noSelect ops = true) (hf : Region.free .any ops listed i = true) (hr : (Region.ready .any ops listed).contains i = true)
  (hQ : ∀ c a w, Q (.panic c) (a.put oi.dst v) w → Q (.panic c) a w) (hy : YieldsIf P ops (fun _ => True) oi v a)
  (h : wpAnyX P ops Q S fin fuel (listed.setIfInBounds i true) (a.put oi.dst v) w) : wpAnyX P ops Q S fin (fuel + 1) listed a w :=
 wpAnyX_firstP hi (Region.noSelect_spec hs) hQ fuel listed a w (Region.free_spec hi hf) (by simpa using hr) hy h
theorem wpAnyX_take {i : Nat} {oi : Oper} {v : Value} {fuel : Nat} {listed : Array Bool} {a : Act} {w : World} (hi : ops[i]? = some oi)
  (hs : Region.noSelect ops = true) (hf : Region.free .any ops listed i = true) (hr : (Region.ready .any ops listed).contains i = true)
  (hQ : ∀ c a w, Q (.panic c) (a.put oi.dst v) w → Q (.panic c) a w) (hfin : ∀ j oj, fin j → ops[j]? = some oj → Waits ops i j) (hcl : ClosedL ops listed) (hy : YieldsIf P ops S oi v a) (hS : S w)
  (h : wpAnyX P ops Q S fin fuel (listed.setIfInBounds i true) (a.put oi.dst v) w) : wpAnyX P ops Q S fin (fuel + 1) listed a w :=
 wpAnyX_first hi (Region.noSelect_spec hs) hQ hfin fuel listed a w hcl (Region.free_spec hi hf) (by simpa using hr) hy hS h
theorem wpAnyX_all {rs : List Nat} {fuel : Nat} {listed : Array Bool} {a : Act} {w : World} (hr : Region.ready .any ops listed = rs) (hne : rs ≠ [])
  (h : ∀ i ∈ rs, wpOp P ops Q i (fun a' w' => (fin i ∨ (S w → S w')) ∧ wpAnyX P ops Q S fin fuel (listed.setIfInBounds i true) a' w') a w) : wpAnyX P ops Q S fin (fuel + 1) listed a w :=
 ⟨fun h0 => absurd (hr ▸ h0) hne, hr ▸ h⟩
theorem wpAnyX_done {listed : Array Bool} {a : Act} {w : World} (hr : Region.ready .any ops listed = []) (h : Q .normal a w) :
  ∀ fuel, wpAnyX P ops Q S fin fuel listed a w
 | 0 => ⟨hr, h⟩
 | _ + 1 => ⟨fun _ => h, by rw [hr]; simp⟩
theorem wp_region_X {id : Nat} {a : Act} {w : World} (hm : P.follows .mixedOrders = true)
  (h : wpAnyX P ops Q S fin ops.size (Array.replicate ops.size false) a { w with drawn := w.drawn + 1 }) : (Code.region id ops true).wp P Q a w :=
 wp_region_any hm (wpAny_of_X _ _ _ _ h)
end anyX
def FinOf (P : Program) (ops : Array Oper) (Q : Exit → Act → World → Prop) (S : World → Prop) (fin : Nat → Prop) (w1 : World) (k : Nat) (listed : Array Bool) (a : Act) (N : News) : Prop := ∀ W, Grown w1 N W → wpAnyX P ops Q S fin k listed a W
theorem canK_any (hs : Region.noSelect ops = true) {Q : Exit → Act → World → Prop} {w1 : World} {S : World → Prop} {fin : Nat → Prop} (hS : ∀ N W, Grown w1 N W → S W) :
  ∀ (k : Nat) {listed : Array Bool} {a : Act} {N : News} {W : World}, Ordered ops listed → Chain ops listed → CanK P ops (FinOf P ops Q S fin w1) k listed a N → Grown w1 N W → wpAnyX P ops Q S fin k listed a W
 | 0, _, _, _, _, _, _, h, hW => h.2 _ hW
 | k + 1, listed, a, N, W, hord, hch, h, hW => by
   rcases h with h | h
   ·exact h.2 _ hW
   have hck : CanK P ops (FinOf P ops Q S fin w1) (k + 1) listed a N := .inr h
   obtain ⟨i, o, r, h1, h1p, h2, h3, h4, h5⟩ := h
   refine ⟨fun h0 => (by rw [h0] at h2; cases h2), fun j hj => ?_⟩
   obtain ⟨_, oj, hoj, _⟩ := mem_ready.1 hj
   obtain ⟨r, hd, ha⟩ := swap hs hch hW.bounded hck hj hoj (hord.plain h1 (getD_of_ready h2) h1p hj hoj)
   unfold wpOp
   simp only [hoj]
   cases r with
   | act l v =>
     obtain ⟨N', hN', ha⟩ := ha
     rcases hd with ⟨hw, -, nx, hv, hnx⟩ | ⟨hw, rfl, rfl⟩
     ·obtain ⟨W', hrun, hg⟩ := stores_run hv hW hN'
      simp only [hw, if_true, Oper.wp, hrun]
      cases nx <;> first | (simp [nextVal] at hnx; done) | (simp only [nextVal, Option.some.injEq] at hnx; subst hnx; simp only [Oper.upon]; exact .inl ⟨.inr fun _ => hS _ _ hg, canK_any hs hS k (hord.more j) (hch.more j) ha hg⟩)
     ·simp only [stos, Option.some.injEq] at hN'
      subst hN'
      simp only [hw, Bool.false_eq_true, if_false]
      exact ⟨.inr fun _ => hS _ _ hW, canK_any hs hS k (hord.more j) (hch.more j) ha hW⟩
   | new c v =>
     obtain ⟨hw, kk, hv, hpv⟩ := hd
     have hrun : (execOp a.eval oj).run P W = .ok (.value (v W.heap.size)) (pushW W c) := by
      rw [newOf_run hv, pureOf_spec (hpv _)]; rfl
     simp only [hw, if_true, Oper.wp, hrun, Oper.upon]
     exact .inl ⟨.inr fun _ => hS _ _ (hW.push c), canK_any hs hS k (hord.more j) (hch.more j) (ha _ hW.fresh) (hW.push c)⟩
end
end Go.Proofs.YtjohknpmhlildaaDoor.Sy
namespace Go.Proofs.YtjohknpmhlildaaDoor.Sy
open Go Go.RowKit
open Ex (twoQ twoQ_run eqQ eqQ_eq wrapQ wrapQ_eq)
variable {P : Program}
def opV (s : Sem Value) : Sem Next := do pure (.value (← s))
theorem opV_run {s : Sem Value} {W W' : World} {v : Value} (h : s.run P W = .ok v W') : (opV s).run P W = .ok (.value v) W' := by
 simp [opV, h]
theorem addr_add (b o n : Nat) : (⟨b, o, none⟩ : Addr).add n = ⟨b, o + n, none⟩ := by
 unfold Addr.add
 split
 ·rename_i h; subst h; rfl
 ·rfl
def lies (W : World) (s o : Nat) (xs : List Value) : Prop := ∀ j u, xs[j]? = some u → W.cell? ⟨s, o + j, none⟩ = some u
theorem lies_of {W : World} {s o : Nat} {ct : Cont} {xs : List Value} (h : ct.sat W.heap[s]?) (hx : ∀ j u, xs[j]? = some u → ct.at (o + j) = some u) : lies W s o xs := fun j u hu =>
 cell_at rfl h rfl (hx j u hu)
def appSem (t ty : TypeId) (v x : Value) : Sem Next := opV (Builtin.append_ #[t, t] ty #[v, x])
theorem row_own {W : World} {g : Nat} {e : TypeId} {size n cap : Nat} {xs : List Value} (h : (Cont.row e size n cap xs).sat W.heap[g]?) : W.ownsRow 0 e size (.slice (some ⟨g, 0, none⟩) n cap) n xs := by
 obtain ⟨cur, h1, h2, h3, h4, h5, h6⟩ := h
 exact ⟨h2, .inr ⟨g, cap, cur, rfl, Nat.zero_le _, h1, h3, h4, h5, h6⟩⟩
theorem own_row {W : World} {g : Nat} {e : TypeId} {size n cap : Nat} {xs : List Value} (h : W.ownsRow 0 e size (.slice (some ⟨g, 0, none⟩) n cap) n xs) : (Cont.row e size n cap xs).sat W.heap[g]? := by
 obtain ⟨h2, h⟩ := h
 rcases h with ⟨h, -⟩ | ⟨g', cap', cur, he, -, h1, h3, h4, h5, h6⟩
 ·cases h
 ·injection he with e1 e2 e3
  injection e1 with e1
  injection e1 with e1
  subst e1 e3
  exact ⟨cur, h1, h2, h3, h4, h5, h6⟩
def num (ns : List Let) (j : Nat) : Nat := (ns.getD j Let.none).n
def appC (rd use : List (Nat × Cont)) (e : TypeId) (size n m : Nat) (xs : List Value) : OpC :=
 ⟨⟨rd, use, 2, []⟩, [(⟨fun ns => n + m ≤ num ns 1, fun ns => [(num ns 0, .row e size (n + m) (num ns 1) xs)], fun _ => []⟩, fun ns => some (.slice (some ⟨num ns 0, 0, none⟩) (n + m) (num ns 1)))]⟩
structure Elem (P : Program) (t e : TypeId) (size bytes : Nat) : Prop where
 under : P.underlying t = some (.slice e)
 info : ∃ i z, P.info? e = some i ∧ i.zero = some z ∧ i.size = size ∧ i.bytes = bytes ∧ z.cells.size = size
 pos : 0 < size
theorem app_any {t ty e : TypeId} {size bytes : Nat} (he : Elem P t e size bytes) {rd use : List (Nat × Cont)} {v : Value} {n m c s o : Nat} {xs news : List Value}
  (hv : (v = .slice none 0 0 ∧ n = 0 ∧ use = [] ∧ xs = []) ∨ ∃ g cap, v = .slice (some ⟨g, 0, none⟩) n cap ∧ use = [(g, .row e size n cap xs)])
  (hl : news.length = m * size) (hm : 0 < m) (h1 : ∀ u ∈ news, u.oneCell' = true) (h63 : n + m ≤ maxLen) (hb : (n + m) * bytes ≤ 140737488355328)
  (hsrc : ∀ W : World, (appC rd use e size n m (xs ++ news)).mem.pre W → lies W s o news) : OpMeets P (appSem t ty v (.slice (some ⟨s, o, none⟩) m c)) (appC rd use e size n m (xs ++ news)) := by
 intro W hpre
 obtain ⟨i, z, hi, hz, hsz, hby, hzs⟩ := he.info
 have hown : W.ownsRow 0 e size v n xs := by
  rcases hv with ⟨rfl, rfl, -, rfl⟩ | ⟨g, cap, rfl, rfl⟩
  ·exact ⟨by simp, .inl ⟨rfl, rfl⟩⟩
  ·exact row_own (hpre.use _ (Sy.mS _))
 have hnews : ∀ j u, news[j]? = some u → W.cell? ((⟨s, o, none⟩ : Addr).add j) = some u := fun j u hu => by
  rw [addr_add]; exact hsrc W hpre j u hu
 obtain ⟨g, cap, W', hrun, how, hgr, hat, hlt⟩ := run_append_lies (P := P) W t ty 0 e i z size bytes he.under hi hz hsz hby hzs he.pos v n xs hown ⟨s, o, none⟩ m c news hl hnews h1 hm h63 hb (Nat.zero_le _) W.heap.size rfl
 have hrow := own_row how
 refine ⟨_, Sy.mS _, [⟨g, 0, false, undef, [], []⟩, ⟨cap, 0, false, undef, [], []⟩], W', opV_run hrun, rfl, ?_, hgr.os, hgr.tape, hgr.output, hgr.size, fun k hk hno => hgr.block k hk ?_, fun p hp => ?_, by simp, fun _ hp => (by cases hp), List.nodup_nil, fun _ _ _ hq => (by cases hq)⟩
 ·obtain ⟨cur, -, -, h3, -⟩ := hrow
  exact h3
 ·rcases hv with ⟨rfl, -, -, -⟩ | ⟨g', cap', rfl, rfl⟩
  ·simp [Value.ownBlock]
  ·have := hno (g', .row e size n cap' xs) (Sy.mS _)
   simp only [Value.ownBlock, ne_eq, Option.some.injEq]
   exact fun h => this h.symm
 ·rcases List.mem_singleton.1 hp with rfl
  refine ⟨?_, hrow⟩
  rcases hat with h | rfl
  ·rcases hv with ⟨rfl, -, -, -⟩ | ⟨g', cap', rfl, rfl⟩
   ·simp [Value.ownBlock] at h
   ·simp only [Value.ownBlock, Option.some.injEq] at h
    exact .inr ⟨_, Sy.mS _, h⟩
  ·exact .inl (Nat.le_refl _)
theorem app_met {t ty e : TypeId} {size bytes : Nat} (he : Elem P t e size bytes) {use : List (Nat × Cont)} {v : Value} {n m c s o : Nat} {ct : Cont} {xs news : List Value}
  (hv : (v = .slice none 0 0 ∧ n = 0 ∧ use = [] ∧ xs = []) ∨ ∃ g cap, v = .slice (some ⟨g, 0, none⟩) n cap ∧ use = [(g, .row e size n cap xs)])
  (hl : news.length = m * size) (hm : 0 < m) (h1 : ∀ u ∈ news, u.oneCell' = true) (h63 : n + m ≤ maxLen) (hb : (n + m) * bytes ≤ 140737488355328)
  (hct : ∀ j u, news[j]? = some u → ct.at (o + j) = some u) : OpMeets P (appSem t ty v (.slice (some ⟨s, o, none⟩) m c)) (appC [(s, ct)] use e size n m (xs ++ news)) :=
 app_any he hv hl hm h1 h63 hb fun _ hpre => lies_of (hpre.rd _ (Sy.mS _)) hct
def nilC (g : Nat) (e : TypeId) (size n cap : Nat) (xs : List Value) : OpC :=
 ⟨⟨[], [(g, .row e size n cap xs)], 0, []⟩, [(⟨fun _ => True, fun _ => [(g, .row e size n cap xs)], fun _ => []⟩, fun _ => some (.slice (some ⟨g, 0, none⟩) n cap))]⟩
theorem run_append_none (W : World) {t ty e : TypeId} {i : TypeInfo} (ht : P.underlying t = some (.slice e)) (hi : P.info? e = some i) (a : Addr) {n cap : Nat} (c : Nat) (hn : n ≤ cap) :
  (Builtin.append_ #[t, t] ty #[.slice (some a) n cap, .slice none 0 c]).run P W = .ok (.slice (some a) n cap) W := by
 simp [Builtin.append_, run_underlying ht, sizeOf, typeInfo, hi, Builtin.lenOf, hn, Builtin.firstCells, storeCells]
theorem app_none {t ty e : TypeId} {size bytes : Nat} (he : Elem P t e size bytes) {g n cap c : Nat} {xs : List Value} : OpMeets P (appSem t ty (.slice (some ⟨g, 0, none⟩) n cap) (.slice none 0 c)) (nilC g e size n cap xs) := by
 intro W hpre
 obtain ⟨i, z, hi, -⟩ := he.info
 have hs := hpre.use _ (Sy.mS _)
 have hn : n ≤ cap := by
  obtain ⟨cur, -, -, h3, -⟩ := hs
  exact h3
 refine ⟨_, Sy.mS _, [], W, opV_run (run_append_none W he.under hi _ c hn), rfl, trivial, rfl, rfl, rfl, Nat.le_refl _, fun _ _ _ => rfl, fun p hp => ?_, by simp, fun _ hp => (by cases hp), List.nodup_nil, fun _ _ _ hq => (by cases hq)⟩
 rcases List.mem_singleton.1 hp with rfl
 exact ⟨.inr ⟨_, Sy.mS _, rfl⟩, hs⟩
def appOf (ρ : Operand → Value) (o : Oper) : Option (TypeId × Value × Value) :=
 match o.op with
 | .call c => match c.callee with
   | .builtin .append => match c.args.toList, c.argTypes.toList with
     | [x, y], [t, t'] => match Nat.beq t t' with
       | true => some (t, ρ x, ρ y)
       | false => none
     | _, _ => none
   | _ => none
 | _ => none
theorem appOf_run {ρ : Operand → Value} {o : Oper} {t : TypeId} {v x : Value} (h : appOf ρ o = some (t, v, x)) (W : World) : (execOp ρ o).run P W = (appSem t o.type v x).run P W := by
 unfold appOf at h
 split at h
 ·rename_i c hc
  split at h
  ·rename_i hb
   split at h
   ·rename_i x' y' t1 t2 ha ht
    split at h
    ·rename_i hn
     injection h with h
     injection h with h1 h
     injection h with h2 h3
     have hn := Nat.eq_of_beq_eq_true hn
     subst hn h1 h2 h3
     have ha' : c.args = #[x', y'] := by rw [← Array.toList_inj]; exact ha
     have ht' : c.argTypes = #[t1, t1] := by rw [← Array.toList_inj]; exact ht
     unfold execOp
     rw [hc]
     simp [resolve, hb, ha', ht', invoke, builtin, appSem, opV]
    ·cases h
   ·cases h
  ·cases h
 ·cases h
def cellsAt (ct : Cont) : Nat → Nat → Option (List Value)
 | _, 0 => some []
 | o, k + 1 => match ct.at o with
   | some v => match v.oneCell' with
     | true => match cellsAt ct (o + 1) k with
       | some l => some (v :: l)
       | none => none
     | false => none
   | none => none
theorem cellsAt_spec {ct : Cont} : ∀ {k o : Nat} {l : List Value}, cellsAt ct o k = some l → l.length = k ∧ (∀ u ∈ l, u.oneCell' = true) ∧ ∀ j u, l[j]? = some u → ct.at (o + j) = some u
 | 0, o, l, h => by injection h with h; subst h; exact ⟨rfl, fun _ h => (by cases h), fun j u h => (by simp at h)⟩
 | k + 1, o, l, h => by
   unfold cellsAt at h
   split at h
   ·rename_i v hv
    split at h
    ·rename_i h1
     split at h
     ·rename_i l' hl
      injection h with h
      subst h
      obtain ⟨a1, a2, a3⟩ := cellsAt_spec hl
      refine ⟨by simp [a1], fun u hu => ?_, fun j u hu => ?_⟩
      ·rcases List.mem_cons.1 hu with rfl | hu
       ·exact h1
       ·exact a2 u hu
      ·cases j with
       | zero => simp only [List.getElem?_cons_zero, Option.some.injEq] at hu; subst hu; exact hv
       | succ j => rw [show o + (j + 1) = o + 1 + j by omega]; exact a3 j u (by simpa using hu)
     ·cases h
    ·cases h
   ·cases h
section
variable {α : Type}
def newsT (ct : Cont) (o m size : Nat) (k : List Value → T α) : T α :=
 altT (match cellsAt ct o (m * size) with
  | some l => k l
  | none => .fail)
 (match ct with
  | .row _ _ _ _ xs => .need (o = 0 ∧ xs.length = m * size ∧ ∀ u ∈ xs, u.oneCell' = true) (k xs)
  | .seg off xs => .need (o = off ∧ xs.length = m * size ∧ ∀ u ∈ xs, u.oneCell' = true) (k xs)
  | _ => .fail)
theorem newsT_spec {ct : Cont} {o m size : Nat} {k : List Value → T α} {K : α → Prop} (h : (newsT ct o m size k).all K) :
  ∃ l, l.length = m * size ∧ (∀ u ∈ l, u.oneCell' = true) ∧ (∀ j u, l[j]? = some u → ct.at (o + j) = some u) ∧ (k l).all K := by
 rcases altT_spec h with h | h
 ·split at h
  ·rename_i l hl
   obtain ⟨a1, a2, a3⟩ := cellsAt_spec hl
   exact ⟨l, a1, a2, a3, h⟩
  ·exact h.elim
 ·split at h
  ·obtain ⟨⟨h1, h2, h3⟩, h4⟩ := h
   subst h1
   exact ⟨_, h2, h3, fun j u hu => by simpa [Cont.at] using hu, h4⟩
  ·obtain ⟨⟨h1, h2, h3⟩, h4⟩ := h
   subst h1
   refine ⟨_, h2, h3, fun j u hu => ?_, h4⟩
   simp only [Cont.at]
   rw [if_pos (by omega), show o + j - o = j by omega]
   exact hu
  ·exact h.elim
def dstT (L : List Blk) (v : Value) (el : TypeId) (size : Nat) (k : List (Nat × Cont) → Nat → List Value → T α) : T α := match v with
 | .slice none 0 0 => k [] 0 []
 | .slice (some ⟨g, 0, none⟩) n cap => pickT L g fun b _ => match b.ct with
   | .row _ _ _ _ xs => k [(g, .row el size n cap xs)] n xs
   | .obj (.cells cs _ _) => k [(g, .row el size n cap (cs.toList.take (n * size)))] n (cs.toList.take (n * size))
   | _ => .fail
 | _ => .fail
theorem dstT_spec {L : List Blk} {v : Value} {el : TypeId} {size : Nat} {k : List (Nat × Cont) → Nat → List Value → T α} {K : α → Prop} (h : (dstT L v el size k).all K) :
  ∃ use n xs, ((v = .slice none 0 0 ∧ n = 0 ∧ use = [] ∧ xs = []) ∨ ∃ g cap, v = .slice (some ⟨g, 0, none⟩) n cap ∧ use = [(g, .row el size n cap xs)]) ∧ (k use n xs).all K := by
 unfold dstT at h
 split at h
 ·exact ⟨_, _, _, .inl ⟨rfl, rfl, rfl, rfl⟩, h⟩
 ·obtain ⟨p, j, hj, hb, h⟩ := pickT_spec h
  split at h
  ·exact ⟨_, _, _, .inr ⟨_, _, rfl, rfl⟩, h⟩
  ·exact ⟨_, _, _, .inr ⟨_, _, rfl, rfl⟩, h⟩
  ·exact h.elim
 ·exact h.elim
variable (P)
def appT (L : List Blk) (t : TypeId) (v x : Value) (k : OpC → T α) : T α :=
 match P.underlying t with
 | some (.slice el) => match P.info? el with
   | some i => match i.zero with
     | some z => match x with
       | .slice (some ⟨s, o, none⟩) m _ => match Nat.beq z.cells.size i.size && Nat.ble 1 i.size with
         | true => pickT L s fun b _ => newsT b.ct o m i.size fun news => dstT L v el i.size fun use n xs =>
           reqP (Nat.ble 1 m) (1 ≤ m) <| reqP (Nat.ble (n + m) maxLen) (n + m ≤ maxLen) <| reqP (Nat.ble ((n + m) * i.bytes) 140737488355328) ((n + m) * i.bytes ≤ 140737488355328) <|
            k (appC [(s, b.ct)] use el i.size n m (xs ++ news))
         | false => .fail
       | .slice none 0 _ => match Nat.beq z.cells.size i.size && Nat.ble 1 i.size with
         | true => dstT L v el i.size fun use _ _ => match v, use with
           | .slice (some ⟨g, 0, none⟩) n cap, [(g', .row e' s' n' c' xs)] => .same (.blks [⟨g, .row el i.size n cap xs, true⟩]) (.blks [⟨g', .row e' s' n' c' xs, true⟩]) (k (nilC g el i.size n cap xs))
           | _, _ => .fail
         | false => .fail
       | _ => .fail
     | none => .fail
   | none => .fail
 | _ => .fail
variable {P}
theorem appT_spec {L : List Blk} {t ty : TypeId} {v x : Value} {k : OpC → T α} {K : α → Prop} (h : (appT P L t v x k).all K) : ∃ c, OpMeets P (appSem t ty v x) c ∧ (k c).all K := by
 unfold appT at h
 split at h
 ·rename_i el hu
  split at h
  ·rename_i i hi
   split at h
   ·rename_i z hz
    split at h
    ·rename_i s o m cc
     split at h
     ·rename_i hc
      simp only [Bool.and_eq_true] at hc
      obtain ⟨c1, c2⟩ := hc
      have c1 := Nat.eq_of_beq_eq_true c1
      have c2 := Nat.le_of_ble_eq_true c2
      obtain ⟨b, j, hj, hb, h⟩ := pickT_spec h
      obtain ⟨news, a1, a2, a3, h⟩ := newsT_spec h
      obtain ⟨use, n, xs, d1, h⟩ := dstT_spec h
      obtain ⟨e1, h⟩ := reqP_spec h
      obtain ⟨e2, h⟩ := reqP_spec h
      obtain ⟨e3, h⟩ := reqP_spec h
      have e1 := e1.elim Nat.le_of_ble_eq_true id
      have e2 := e2.elim Nat.le_of_ble_eq_true id
      have e3 := e3.elim Nat.le_of_ble_eq_true id
      exact ⟨_, app_met ⟨hu, ⟨i, z, hi, hz, rfl, rfl, c1⟩, c2⟩ d1 a1 e1 a2 e2 e3 a3, h⟩
     ·exact h.elim
    ·split at h
     ·rename_i hc
      simp only [Bool.and_eq_true] at hc
      obtain ⟨c1, c2⟩ := hc
      have c1 := Nat.eq_of_beq_eq_true c1
      have c2 := Nat.le_of_ble_eq_true c2
      obtain ⟨use, n, xs, d1, h⟩ := dstT_spec h
      split at h
      ·exact ⟨_, app_none ⟨hu, ⟨i, z, hi, hz, rfl, rfl, c1⟩, c2⟩, h.2⟩
      ·exact h.elim
     ·exact h.elim
    ·exact h.elim
   ·exact h.elim
  ·exact h.elim
 ·exact h.elim
end
def litN : List Value → Nat → Option (List Value)
 | _, 0 => some []
 | [], _ + 1 => none
 | v :: r, n + 1 => match litN r n with
   | some l => some (v :: l)
   | none => none
theorem litN_spec : ∀ {l : List Value} {n : Nat} {cs : List Value}, litN l n = some cs → cs.length = n ∧ ∀ (j : Nat) (u : Value), cs[j]? = some u → l[j]? = some u
 | l, 0, cs, h => by
   cases l <;> (injection h with h; subst h; exact ⟨rfl, fun j u hu => by simp at hu⟩)
 | [], n + 1, cs, h => by cases h
 | v :: r, n + 1, cs, h => by
   unfold litN at h
   split at h
   ·rename_i l hl
    injection h with h
    subst h
    obtain ⟨h1, h2⟩ := litN_spec hl
    refine ⟨by simp [h1], fun j u hu => ?_⟩
    cases j with
    | zero => simpa using hu
    | succ j => simpa using h2 j u (by simpa using hu)
   ·cases h
def tailR (l : List Value) : List Value := @List.rec Value (fun _ => List Value) [] (fun _ t _ => t) l
theorem tailR_eq (l : List Value) : tailR l = l.drop 1 := by cases l <;> rfl
def drop16 (l : List Value) : List Value := tailR (tailR (tailR (tailR (tailR (tailR (tailR (tailR (tailR (tailR (tailR (tailR (tailR (tailR (tailR (tailR l)))))))))))))))
theorem drop16_eq (l : List Value) : drop16 l = l.drop 16 := by simp only [drop16, tailR_eq, List.drop_drop]
def bigs (n : Nat) : List Value → List Value := @Nat.rec (fun _ => List Value → List Value) (fun l => l) (fun _ ih l => @List.rec Value (fun _ => List Value) [] (fun x r _ => ih (x :: r)) (drop16 l)) n
theorem bigs_eq : ∀ (n : Nat) (l : List Value), bigs n l = l.drop (16 * n)
 | 0, l => rfl
 | n + 1, l => by
   have h : bigs (n + 1) l = @List.rec Value (fun _ => List Value) [] (fun x r _ => bigs n (x :: r)) (drop16 l) := rfl
   have e : l.drop (16 * (n + 1)) = (l.drop 16).drop (16 * n) := by rw [List.drop_drop]; congr 1; omega
   rw [h, e, ← drop16_eq]
   cases drop16 l with
   | nil => simp
   | cons x r => exact bigs_eq n (x :: r)
def ones (n : Nat) : List Value → List Value := @Nat.rec (fun _ => List Value → List Value) (fun l => l) (fun _ ih l => ih (tailR l)) n
theorem ones_eq : ∀ (n : Nat) (l : List Value), ones n l = l.drop n
 | 0, l => rfl
 | n + 1, l => by
   have h : ones (n + 1) l = ones n (tailR l) := rfl
   rw [h, ones_eq n, tailR_eq, List.drop_drop]
   congr 1
   omega
def dropF (o : Nat) (l : List Value) : List Value := ones (Nat.mod o 16) (bigs (Nat.div o 16) l)
theorem dropF_eq (o : Nat) (l : List Value) : dropF o l = l.drop o := by
 unfold dropF
 rw [ones_eq, bigs_eq, List.drop_drop]
 congr 1
 show 16 * (o / 16) + o % 16 = o
 omega
def cellsLit : Cont → Nat → Nat → Option (List Value)
 | .obj (.cells c _ _), o, n => litN (dropF o c.toList) n
 | .obj _, _, _ => none
 | .row _ _ _ _ xs, o, n => litN (dropF o xs) n
 | .seg b xs, o, n => match Nat.ble b o with
   | true => litN (dropF (Nat.sub o b) xs) n
   | false => none
theorem cellsLit_spec {ct : Cont} {o n : Nat} {cs : List Value} (h : cellsLit ct o n = some cs) : cs.length = n ∧ ∀ (j : Nat) (u : Value), cs[j]? = some u → ct.at (o + j) = some u := by
 cases ct with
 | obj ob =>
   cases ob with
   | cells c t f =>
     obtain ⟨h1, h2⟩ := litN_spec h
     rw [dropF_eq] at h2
     exact ⟨h1, fun j u hu => by simpa [Cont.at, List.getElem?_drop] using h2 j u hu⟩
   | _ => cases h
 | row e size m cap xs =>
   obtain ⟨h1, h2⟩ := litN_spec h
   rw [dropF_eq] at h2
   exact ⟨h1, fun j u hu => by simpa [Cont.at, List.getElem?_drop] using h2 j u hu⟩
 | seg b xs =>
   simp only [cellsLit] at h
   split at h
   ·rename_i hb
    have hb := Nat.le_of_ble_eq_true hb
    obtain ⟨h1, h2⟩ := litN_spec h
    refine ⟨h1, fun j u hu => ?_⟩
    rw [dropF_eq] at h2
    have := h2 j u hu
    simp only [Cont.at]
    rw [if_pos (by omega)]
    change (xs.drop (o - b))[j]? = some u at this
    rw [List.getElem?_drop] at this
    rw [show o + j - b = o - b + j by omega]
    exact this
   ·cases h
section
variable {α : Type}
def cellsT (ct : Cont) : List Value → Nat → Nat → (List Value → T α) → T α
 | _, _, 0, k => k []
 | zs, o, n + 1, k => loadT zs.head? (ct.at o) fun v => cellsT ct zs.tail (o + 1) n fun l => k (v :: l)
theorem cellsT_spec {ct : Cont} {K : α → Prop} : ∀ {n : Nat} {zs : List Value} {o : Nat} {k : List Value → T α}, (cellsT ct zs o n k).all K → ∃ cs : List Value, cs.length = n ∧ (∀ (j : Nat) (u : Value), cs[j]? = some u → ct.at (o + j) = some u) ∧ (k cs).all K
 | 0, zs, o, k, h => ⟨[], rfl, fun j u hu => by simp at hu, h⟩
 | n + 1, zs, o, k, h => by
   simp only [cellsT] at h
   obtain ⟨v, hv, h⟩ := loadT_spec h
   obtain ⟨cs, h1, h2, h3⟩ := cellsT_spec h
   refine ⟨v :: cs, by simp [h1], fun j u hu => ?_, h3⟩
   cases j with
   | zero => simp only [List.getElem?_cons_zero, Option.some.injEq] at hu; subst hu; exact hv
   | succ j => rw [show o + (j + 1) = o + 1 + j by omega]; exact h2 j u (by simpa using hu)
variable (P)
def aggOf (t : TypeId) : Option Bool := match P.underlying t with
 | some (.struct _) => some true
 | some (.array _ _) => some true
 | some _ => some false
 | none => none
def sizeP (t : TypeId) : Option Nat := match P.info? t with
 | some i => some i.size
 | none => none
def zeroCells (t : TypeId) : List Value := match P.info? t with
 | some i => match i.zero with
   | some z => z.cells.toList
   | none => []
 | none => []
def finL (g : Bool) (cs : List Value) (k : Value → T α) : T α := match g with
 | true => k (.agg cs.toArray)
 | false => match cs with
   | [v] => k v
   | _ => .fail
def HasL (L : List Blk) (b o : Nat) (v : Value) : Prop := ∃ q ∈ L, q.nm = b ∧ q.ct.at o = some v
def kindH (z : Value) (Q : Value → Prop) (k : Value → T α) : T α := match z with
 | .int kd _ => .need (∃ i, Q (.int kd i)) (.ask fun x => .hyp (∀ u, Q u → u = .int kd x.i) (k (.int kd x.i)))
 | .bool _ => .need (∃ b, Q (.bool b)) (.ask fun x => .hyp (∀ u, Q u → u = .bool x.b) (k (.bool x.b)))
 | .string _ => .need (∃ s, Q (.string s)) (.ask fun x => .hyp (∀ u, Q u → u = .string (strV x.v)) (k (.string (strV x.v))))
 | _ => .need (∃ v, Q v) (.ask fun x => .hyp (∀ u, Q u → u = x.v) (k x.v))
def cellsH (L : List Blk) (b : Nat) : List Value → Nat → Nat → (List Value → T α) → T α
 | _, _, 0, k => k []
 | zs, o, n + 1, k => kindH (zs.headD undef) (HasL L b o) fun v => cellsH L b zs.tail (o + 1) n fun l => k (v :: l)
def loadH (t : TypeId) (b o : Nat) (L : List Blk) (k : Value → T α) : T α := match aggOf P t, sizeP P t with
 | some g, some (n + 1) => .or (.tail (L.map (·.nm))) fun d => cellsH (L.drop d) b (zeroCells P t) o (n + 1) fun cs => finL g cs k
 | _, _ => .fail
def segT (ct : Cont) (g : Bool) (o n : Nat) (k : Value → T α) : T α := match ct, g with
 | .seg o' [v], false => match Nat.beq n 1 with
   | true => .same (.nat o') (.nat o) (k v)
   | false => .fail
 | _, _ => .fail
theorem segT_spec {ct : Cont} {g : Bool} {o n : Nat} {k : Value → T α} {K : α → Prop} (h : (segT ct g o n k).all K) : ∃ v, ct = .seg o [v] ∧ g = false ∧ n = 1 ∧ (k v).all K := by
 unfold segT at h
 split at h
 ·rename_i o' v
  split at h
  ·rename_i hn
   obtain ⟨h1, h⟩ := h
   have h1 := tok_nat h1
   subst h1
   exact ⟨v, rfl, rfl, Nat.eq_of_beq_eq_true hn, h⟩
  ·exact h.elim
 ·exact h.elim
def altSeg (ct : Cont) (x y : T α) : T α := match ct with
 | .seg _ _ => altT x y
 | _ => y
theorem altSeg_spec {ct : Cont} {x y : T α} {K : α → Prop} (h : (altSeg ct x y).all K) : x.all K ∨ y.all K := by
 unfold altSeg at h
 split at h
 ·exact altT_spec h
 ·exact .inr h
def loadK (t : TypeId) (b o : Nat) (L : List Blk) (k : Value → T α) : T α := match aggOf P t, sizeP P t with
 | some g, some n => pickT L b fun p _ => altSeg p.ct (segT p.ct g o n k) (altT (match cellsLit p.ct o n with
   | some cs => finL g cs k
   | none => .fail)
  (altT (match p.ct, g with
   | .obj (.cells c _ _), true => match Nat.beq o 0 with
     | true => .need (c.size = n) (k (.agg c))
     | false => .fail
   | _, _ => .fail)
   (cellsT p.ct (zeroCells P t) o n fun cs => finL g cs k)))
 | _, _ => .fail
def loadN (t : TypeId) (b o : Nat) (L : List Blk) (k : Value → T α) : T α := .or .force (two (loadK P t b o L k) (loadH P t b o L k))
def loadOf (ρ : Operand → Value) (o : Oper) : Option (TypeId × Nat × Nat) := match o.op with
 | .load t x => match ρ x with
   | .pointer (some ⟨b, off, none⟩) => some (t, b, off)
   | _ => none
 | _ => none
variable {P}
theorem loadOf_run {ρ : Operand → Value} {o : Oper} {t : TypeId} {b off : Nat} (h : loadOf ρ o = some (t, b, off)) (W : World) : (execOp ρ o).run P W = (opV (loadVar t ⟨b, off, none⟩)).run P W := by
 unfold loadOf at h
 split at h
 ·rename_i t' x ho
  split at h
  ·rename_i b' off' hx
   simp only [Option.some.injEq, Prod.mk.injEq] at h
   obtain ⟨rfl, rfl, rfl⟩ := h
   unfold execOp
   rw [ho]
   simp only [hx]
   rfl
  ·cases h
 ·cases h
theorem run_isAgg {t : TypeId} {g : Bool} (h : aggOf P t = some g) (W : World) : (isAgg t).run P W = .ok g W := by
 unfold aggOf at h
 unfold isAgg
 split at h
 ·rename_i hu; injection h with h; subst h; simp [run_underlying hu]
 ·rename_i hu; injection h with h; subst h; simp [run_underlying hu]
 ·rename_i d h1 h2 hu
  injection h with h
  subst h
  simp only [Sem.run_bind, run_underlying hu, Result.andThen_ok]
  cases d <;> first | rfl | exact (h1 _ rfl).elim | exact (h2 _ _ rfl).elim
 ·cases h
theorem sizeP_spec {t : TypeId} {n : Nat} (h : sizeP P t = some n) : ∃ i, P.info? t = some i ∧ i.size = n := by
 unfold sizeP at h
 split at h
 ·rename_i i hi; injection h with h; exact ⟨i, hi, h⟩
 ·cases h
theorem loadCells_run {ct : Cont} {b o : Nat} {cs : List Value} {W : World} (hs : ct.sat W.heap[b]?) (hc : ∀ (j : Nat) (u : Value), cs[j]? = some u → ct.at (o + j) = some u) : (loadCells ⟨b, o, none⟩ cs.length).run P W = .ok cs.toArray W :=
 run_loadCells_list W _ cs fun j u hu => by rw [addr_add]; exact cell_at rfl hs rfl (hc j u hu)
theorem finL_spec {t : TypeId} {g : Bool} {n : Nat} (hg : aggOf P t = some g) (hn : sizeP P t = some n) {ct : Cont} {b o : Nat} {cs : List Value} {k : Value → T α} {K : α → Prop} (hl : cs.length = n) (hc : ∀ (j : Nat) (u : Value), cs[j]? = some u → ct.at (o + j) = some u) (h : (finL g cs k).all K) :
  ∃ v, (k v).all K ∧ ∀ W : World, ct.sat W.heap[b]? → (loadVar t ⟨b, o, none⟩).run P W = .ok v W := by
 obtain ⟨i, hi, hsz⟩ := sizeP_spec hn
 unfold finL at h
 split at h
 ·refine ⟨_, h, fun W hs => ?_⟩
  have hL := loadCells_run (P := P) hs hc
  rw [hl] at hL
  unfold loadVar
  simp [run_isAgg hg, sizeOf, typeInfo, hi, hsz, hL]
 ·split at h
  ·rename_i v
   refine ⟨v, h, fun W hs => ?_⟩
   have h0 : W.cell? ⟨b, o, none⟩ = some v := cell_at rfl hs rfl (by have := hc 0 v rfl; simpa using this)
   unfold loadVar
   simp [run_isAgg hg, h0]
  ·exact h.elim
theorem loadK_spec {t : TypeId} {b o : Nat} {L : List Blk} {k : Value → T α} {K : α → Prop} (h : (loadK P t b o L k).all K) : ∃ v, (k v).all K ∧ ∀ W, There L W → (opV (loadVar t ⟨b, o, none⟩)).run P W = .ok (.value v) W := by
 unfold loadK at h
 split at h
 ·rename_i g n hg hn
  obtain ⟨p, j, hj, hb, h⟩ := pickT_spec h
  have fin : (∃ v, (k v).all K ∧ ∀ W : World, p.ct.sat W.heap[b]? → (loadVar t ⟨b, o, none⟩).run P W = .ok v W) → ∃ v, (k v).all K ∧ ∀ W, There L W → (opV (loadVar t ⟨b, o, none⟩)).run P W = .ok (.value v) W := fun ⟨v, h1, h2⟩ =>
   ⟨v, h1, fun W hW => opV_run (h2 W (by rw [hb]; exact hW p (List.mem_of_getElem? hj)))⟩
  rcases altSeg_spec h with h | h
  ·obtain ⟨v, h1, rfl, rfl, h2⟩ := segT_spec h
   refine fin (finL_spec (ct := p.ct) (b := b) (o := o) (cs := [v]) hg hn rfl (fun j u hu => ?_) h2)
   rw [h1]
   cases j with
   | zero => simp only [List.getElem?_cons_zero, Option.some.injEq] at hu; subst hu; simp [Cont.at]
   | succ j => simp at hu
  rcases altT_spec h with h | h
  ·split at h
   ·rename_i cs hcs
    obtain ⟨h1, h2⟩ := cellsLit_spec hcs
    exact fin (finL_spec hg hn h1 h2 h)
   ·exact h.elim
  ·rcases altT_spec h with h | h
   ·have hwhole : ∀ (ct : Cont) (gg : Bool), ct = p.ct → gg = g → (match ct, gg with
     | .obj (.cells c _ _), true => match Nat.beq o 0 with
       | true => T.need (c.size = n) (k (.agg c))
       | false => .fail
     | _, _ => .fail : T α).all K → ∃ c t' f, p.ct = .obj (.cells c t' f) ∧ g = true ∧ o = 0 ∧ c.size = n ∧ (k (.agg c)).all K := by
     intro ct gg hct hgg hm
     split at hm
     ·rename_i c t' f
      split at hm
      ·rename_i ho
       exact ⟨c, t', f, hct.symm, hgg.symm, Nat.eq_of_beq_eq_true ho, hm.1, hm.2⟩
      ·exact hm.elim
     ·exact hm.elim
    obtain ⟨c, t', f, hct, rfl, rfl, hcs, h4⟩ := hwhole _ _ rfl rfl h
    refine fin (finL_spec (cs := c.toList) hg hn (by simpa using hcs) (fun j u hu => ?_) (by simpa [finL] using h4))
    rw [hct, Nat.zero_add]
    exact hu
   ·obtain ⟨cs, h1, h2, h⟩ := cellsT_spec h
    exact fin (finL_spec hg hn h1 h2 h)
 ·exact h.elim
theorem There.drop {L : List Blk} {W : World} (h : There L W) (d : Nat) : There (L.drop d) W := fun p hp => h p (List.mem_of_mem_drop hp)
theorem hasL_cell {L : List Blk} {W : World} (hW : There L W) {b o : Nat} {v : Value} (h : HasL L b o v) : ∃ c t f, W.heap[b]? = some (.cells c t f) ∧ c[o]? = some v := by
 obtain ⟨q, hq, rfl, hv⟩ := h
 exact Cont.at_spec (hW q hq) hv
theorem hasL_one {L : List Blk} {W : World} (hW : There L W) {b o : Nat} {u v : Value} (h : HasL L b o u) (h' : HasL L b o v) : u = v := by
 obtain ⟨c, t, f, h1, h2⟩ := hasL_cell hW h
 obtain ⟨c', t', f', h3, h4⟩ := hasL_cell hW h'
 rw [h1] at h3
 injection h3 with h3
 injection h3 with h3
 subst h3
 rw [h2] at h4
 injection h4
theorem kindH_spec {z : Value} {Q : Value → Prop} {k : Value → T α} {K : α → Prop} (hQ : ∀ u v, Q u → Q v → u = v) (h : (kindH z Q k).all K) : ∃ v, Q v ∧ (k v).all K := by
 unfold kindH at h
 split at h
 ·obtain ⟨⟨i, hi⟩, h⟩ := h
  exact ⟨_, hi, h ⟨0, i, false, undef, [], []⟩ fun u hu => hQ _ _ hu hi⟩
 ·obtain ⟨⟨b, hb⟩, h⟩ := h
  exact ⟨_, hb, h ⟨0, 0, b, undef, [], []⟩ fun u hu => hQ _ _ hu hb⟩
 ·obtain ⟨⟨s, hs⟩, h⟩ := h
  exact ⟨_, hs, h ⟨0, 0, false, .string s, [], []⟩ fun u hu => hQ _ _ hu hs⟩
 ·obtain ⟨⟨v, hv⟩, h⟩ := h
  exact ⟨_, hv, h ⟨0, 0, false, v, [], []⟩ fun u hu => hQ _ _ hu hv⟩
theorem cellsH_spec {L : List Blk} {W : World} (hW : There L W) {b : Nat} {K : α → Prop} : ∀ {n : Nat} {zs : List Value} {o : Nat} {k : List Value → T α}, (cellsH L b zs o n k).all K → ∃ cs : List Value, cs.length = n ∧ (∀ (j : Nat) (u : Value), cs[j]? = some u → HasL L b (o + j) u) ∧ (k cs).all K
 | 0, zs, o, k, h => ⟨[], rfl, fun j u hu => by simp at hu, h⟩
 | n + 1, zs, o, k, h => by
   simp only [cellsH] at h
   obtain ⟨v, hv, h⟩ := kindH_spec (fun _ _ h h' => hasL_one hW h h') h
   obtain ⟨cs, h1, h2, h3⟩ := cellsH_spec hW h
   refine ⟨v :: cs, by simp [h1], fun j u hu => ?_, h3⟩
   cases j with
   | zero => simp only [List.getElem?_cons_zero, Option.some.injEq] at hu; subst hu; exact hv
   | succ j => rw [show o + (j + 1) = o + 1 + j by omega]; exact h2 j u (by simpa using hu)
theorem hasL_seg {L : List Blk} {W : World} (hW : There L W) {b o : Nat} {cs : List Value} (hne : 0 < cs.length) (h : ∀ (j : Nat) (u : Value), cs[j]? = some u → HasL L b (o + j) u) : (Cont.seg o cs).sat W.heap[b]? := by
 obtain ⟨c, t, f, h1, -⟩ := hasL_cell hW (h 0 _ (List.getElem?_eq_getElem hne))
 refine ⟨c, t, f, h1, fun j u hu => ?_⟩
 obtain ⟨c', t', f', h3, h4⟩ := hasL_cell hW (h j u hu)
 rw [h1] at h3
 injection h3 with h3
 injection h3 with h3
 subst h3
 simpa using h4
theorem loadN_spec {t : TypeId} {b o : Nat} {L : List Blk} {k : Value → T α} {K : α → Prop} {W0 : World} (h0 : There L W0) (h : (loadN P t b o L k).all K) : ∃ v, (k v).all K ∧ ∀ W, There L W → (opV (loadVar t ⟨b, o, none⟩)).run P W = .ok (.value v) W := by
 unfold loadN at h
 rcases two_spec h with h | h
 ·exact loadK_spec h
 unfold loadH at h
 split at h
 ·rename_i g n hg hn
  obtain ⟨d, h⟩ := h
  obtain ⟨cs, h1, h2, h⟩ := cellsH_spec (h0.drop d) h
  obtain ⟨v, h3, h4⟩ := finL_spec (ct := .seg o cs) (b := b) (o := o) hg hn h1 (fun j u hu => by
   simp only [Cont.at]
   rw [if_pos (by omega), show o + j - o = j by omega]
   exact hu) h
  exact ⟨v, h3, fun W hW => opV_run (h4 W (hasL_seg (hW.drop d) (by omega) h2))⟩
 ·exact h.elim
end
section
variable {α : Type} (P)
def resT (g : Nat → Value) (L : List Blk) : List ResultVar → (List Value → T α) → T α
 | [], k => k []
 | .tmp t :: r, k => resT g L r fun l => k (g t :: l)
 | .cell s t :: r, k => match g s with
   | .pointer (some ⟨b, off, none⟩) => loadN P t b off L fun v => resT g L r fun l => k (v :: l)
   | _ => .fail
def resOne (g : Nat → Value) (r : ResultVar) : Sem Value := match r with
 | .tmp t => pure (g t)
 | .cell a t => do loadVar t (← asAddr (g a))
theorem resF_def (fn : Func) (g : Nat → Value) : resF fn g = (do
  let vs ← fn.results.mapM (resOne g)
  pure (if h : vs.size = 1 then vs[0] else .tuple vs)) := rfl
def oneV (l : List Value) : Value := match l with
 | [v] => v
 | l => .tuple l.toArray
variable {P}
theorem resT_spec {g : Nat → Value} {L : List Blk} {K : α → Prop} {W0 : World} (h0 : There L W0) : ∀ {rs : List ResultVar} {k : List Value → T α}, (resT P g L rs k).all K → ∃ l, (k l).all K ∧ ∀ W, There L W → (rs.mapM (resOne g)).run P W = .ok l W
 | [], k, h => ⟨[], h, fun W _ => rfl⟩
 | .tmp t :: r, k, h => by
   obtain ⟨l, h1, h2⟩ := resT_spec h0 (rs := r) h
   refine ⟨_, h1, fun W hW => ?_⟩
   simp only [List.mapM_cons, Sem.run_bind, resOne, Sem.run_pure, Result.andThen_ok]
   rw [h2 W hW]
   rfl
 | .cell s t :: r, k, h => by
   simp only [resT] at h
   split at h
   ·rename_i b off hg
    obtain ⟨v, h, hrun⟩ := loadN_spec h0 h
    obtain ⟨l, h1, h2⟩ := resT_spec h0 (rs := r) h
    refine ⟨_, h1, fun W hW => ?_⟩
    have h3 : (loadVar t ⟨b, off, none⟩).run P W = .ok v W := by
     have := hrun W hW
     unfold opV at this
     rw [Sem.run_bind] at this
     cases hx : (loadVar t ⟨b, off, none⟩).run P W with
     | ok u w =>
       rw [hx] at this
       simp only [Result.andThen_ok, Sem.run_pure, Result.ok.injEq, Next.value.injEq] at this
       rw [this.1, this.2]
     | halt x w => rw [hx] at this; cases this
    simp only [List.mapM_cons, Sem.run_bind]
    have h4 : (resOne g (.cell s t)).run P W = .ok v W := by simp [resOne, hg, asAddr, h3]
    rw [h4]
    simp only [Result.andThen_ok]
    rw [h2 W hW]
    rfl
   ·exact h.elim
theorem resF_run {fn : Func} {g : Nat → Value} {l : List Value} {W : World} (h : (fn.results.toList.mapM (resOne g)).run P W = .ok l W) : (resF fn g).run P W = .ok (oneV l) W := by
 rw [resF_def, Array.mapM_eq_mapM_toList]
 simp only [map_eq_pure_bind, bind_assoc, pure_bind, Sem.run_bind]
 rw [h]
 simp only [Result.andThen_ok, Sem.run_pure]
 congr 1
 unfold oneV
 split
 ·rename_i hs
  obtain ⟨v, rfl⟩ : ∃ v, l = [v] := List.length_eq_one_iff.1 (by simpa using hs)
  rfl
 ·rename_i hs
  split
  ·rename_i v; simp at hs
  ·rfl
end
def kindOf (P : Program) (t : TypeId) : Option IntKind := match P.underlying t with
 | some (.int k) => some k
 | _ => none
theorem kindOf_spec {t : TypeId} {k : IntKind} (h : kindOf P t = some k) : P.underlying t = some (.int k) := by
 unfold kindOf at h
 split at h
 ·rename_i hu
  injection h with h
  rw [hu, h]
 ·cases h
def fieldQ (P : Program) (s : TypeId) (f b off : Nat) : Option Value := match P.underlying s with
 | some (.struct fs) => match fs[f]? with
   | some fl => match sizeP P fl.type with
     | some n => match Nat.beq n 0 with
       | true => none
       | false => some (.pointer (some ⟨b, Nat.add off fl.offset, none⟩))
     | none => none
   | none => none
 | _ => none
theorem fieldQ_run {s : TypeId} {f b off : Nat} {v : Value} (h : fieldQ P s f b off = some v) (W : World) : (Instr.fieldAt s (.pointer (some ⟨b, off, none⟩)) f).run P W = .ok v W := by
 unfold fieldQ at h
 split at h
 ·rename_i fs hu
  split at h
  ·rename_i fl hf
   split at h
   ·rename_i n hn
    split at h
    ·cases h
    ·rename_i h0
     injection h with h
     subst h
     obtain ⟨i, hi, hs⟩ := sizeP_spec hn
     have hne : ¬ i.size = 0 := fun he => by rw [hs] at he; rw [he] at h0; cases h0
     simp [Instr.fieldAt, run_underlying hu, hf, Instr.sureAddr, fieldPlace, sizeOf, typeInfo, hi, hne, addr_add]
   ·cases h
  ·cases h
 ·cases h
def eqFieldsQ (P : Program) : List Field → List Value → List Value → Nat → Option Bool
 | [], _, _, _ => some true
 | f :: fs, .int k a :: xs, .int k' b :: ys, j => match kindOf P f.type with
   | some _ => match Nat.beq f.offset j && (Nat.beq (Ex.kIx k) (Ex.kIx k') && !(f.name == "_")) with
     | true => match eqFieldsQ P fs xs ys (j + 1) with
       | some r => some (eqQ a b && r)
       | none => none
     | false => none
   | none => none
 | _, _, _, _ => none
theorem eqFieldsQ_run {W : World} (d : Nat) (X Y : Array Value) : ∀ (fs : List Field) (xs ys : List Value) (j : Nat) (r : Bool), X.toList.drop j = xs → Y.toList.drop j = ys → eqFieldsQ P fs xs ys j = some r → (Op.eqFields (d + 1) X Y fs).run P W = .ok r W
 | [], xs, ys, j, r, _, _, h => by
   simp only [eqFieldsQ, Option.some.injEq] at h
   subst h
   rfl
 | f :: fs, xs, ys, j, r, hx, hy, h => by
   unfold eqFieldsQ at h
   split at h
   ·rename_i he; cases he
   ·rename_i f1 fs1 k a xs' k' b ys' he
    injection he with he1 he2
    subst he1 he2
    split at h
    ·rename_i k0 hk
     split at h
     ·rename_i hc
      simp only [Bool.and_eq_true, Nat.beq_eq, Bool.not_eq_true', beq_eq_false_iff_ne] at hc
      obtain ⟨h1, h2, h3⟩ := hc
      have h2 := Ex.kIx_inj h2
      subst h2
      split at h
      ·rename_i r' hr
       injection h with h
       subst h
       have hX : X[f.offset]? = some (.int k a) := by
        have := congrArg (·[0]?) hx
        simp only [List.getElem?_drop, List.getElem?_cons_zero, Nat.add_zero] at this
        rw [h1]; simpa using this
       have hY : Y[f.offset]? = some (.int k b) := by
        have := congrArg (·[0]?) hy
        simp only [List.getElem?_drop, List.getElem?_cons_zero, Nat.add_zero] at this
        rw [h1]; simpa using this
       have hd : ∀ {Z : Array Value} {u : Value} {l : List Value} {n : Nat}, Z.toList.drop n = u :: l → Z.toList.drop (n + 1) = l := fun {Z u l n} hz => by
        rw [← List.drop_drop, hz]; rfl
       have ih := eqFieldsQ_run (W := W) d X Y fs xs' ys' _ r' (hd hx) (hd hy) hr
       have hu := kindOf_spec hk
       have hagg : (isAgg f.type).run P W = .ok false W := run_isAgg (by unfold aggOf; rw [hu]) W
       have pX : (part f.type X f.offset).run P W = .ok (.int k a) W := by simp [part, hagg, hX]
       have pY : (part f.type Y f.offset).run P W = .ok (.int k b) W := by simp [part, hagg, hY]
       simp only [Op.eqFields, ne_eq, h3, not_false_eq_true, if_true, Sem.run_bind, pX, pY, Result.andThen_ok, run_equalIn_int W d f.type k k0 a b hu, eqQ_eq]
       cases (a == b)
       ·rfl
       ·simpa using ih
      ·cases h
     ·cases h
    ·cases h
   ·cases h
def eqAggQ (P : Program) (op : BinOp) (t : TypeId) (xs ys : Array Value) : Option Value := match P.underlying t with
 | some (.struct fs) => match P.stoodInHeld t with
   | false => match P.eqGuardType P.depth t with
     | false => match eqFieldsQ P fs.toList xs.toList ys.toList 0 with
       | some r => match op with
         | .eql => some (.bool r)
         | .neq => some (.bool (!r))
         | _ => none
       | none => none
     | true => none
   | true => none
 | _ => none
theorem eqAggQ_run {op : BinOp} {t : TypeId} {x y : Operand} {xs ys : Array Value} {v : Value} (h : eqAggQ P op t xs ys = some v) (W : World) : (do eqGuard op t x y (.agg xs) (.agg ys); binOp op t (.agg xs) (.agg ys) : Sem Value).run P W = .ok v W := by
 unfold eqAggQ at h
 split at h
 ·rename_i fs hu
  split at h
  ·rename_i hh
   split at h
   ·rename_i hg
    split at h
    ·rename_i r hr
     have hf : P.fieldsOf t = fs := by simp [Program.fieldsOf, hu]
     have hu' : P.underlying t = some (.struct (P.fieldsOf t)) := by rw [hf]; exact hu
     have he := run_equalIn_struct (P := P) W 9999 t xs ys hu' hh
     rw [hf, eqFieldsQ_run (W := W) 9998 xs ys fs.toList xs.toList ys.toList 0 r rfl rfl hr] at he
     split at h
     ·injection h with h
      subst h
      simp only [Sem.run_bind, run_eqGuard_agg W _ t x y xs ys hg, Result.andThen_ok, run_eql_struct, he]
     ·injection h with h
      subst h
      simp only [Sem.run_bind, run_eqGuard_agg W _ t x y xs ys hg, Result.andThen_ok, run_neq_struct, he]
     ·cases h
    ·cases h
   ·cases h
  ·cases h
 ·cases h
def isShift : BinOp → Bool
 | .shl => true
 | .shr => true
 | _ => false
def mergeV (b : Bool) : Value → Value → Option Value
 | .bool p, .bool q => some (.bool (bif b then p else q))
 | .int k p, .int k' q => match Nat.beq (Ex.kIx k) (Ex.kIx k') with
   | true => some (.int k (bif b then p else q))
   | false => none
 | _, _ => none
theorem mergeV_spec {b : Bool} {x y v : Value} (h : mergeV b x y = some v) : v = if b = true then x else y := by
 unfold mergeV at h
 split at h
 ·injection h with h; subst h; cases b <;> rfl
 ·split at h
  ·rename_i hk
   have hk := Ex.kIx_inj (Nat.eq_of_beq_eq_true hk)
   injection h with h
   subst h hk
   cases b <;> rfl
  ·cases h
 ·cases h
theorem pick_run {ρ : Operand → Value} {o : Oper} {c x y : Operand} {b : Bool} (ho : o.op = .pick c x y) (hc : ρ c = .bool b) (W : World) : (execOp ρ o).run P W = .ok (.value (if b = true then ρ x else ρ y)) W := by
 unfold execOp
 rw [ho]
 simp only [hc]
 cases b <;> rfl
def eqL (l : List UInt8) : List UInt8 → Bool := @List.rec UInt8 (fun _ => List UInt8 → Bool) (fun t => @List.rec UInt8 (fun _ => Bool) true (fun _ _ _ => false) t) (fun x _ ih t => @List.rec UInt8 (fun _ => Bool) false (fun y r _ => @Bool.rec (fun _ => Bool) false (ih r) (Nat.beq x.toNat y.toNat)) t) l
theorem eqL_eq : ∀ (l t : List UInt8), eqL l t = (l == t)
 | [], [] => rfl
 | [], _ :: _ => rfl
 | _ :: _, [] => rfl
 | x :: l, y :: t => by
   have h : eqL (x :: l) (y :: t) = @Bool.rec (fun _ => Bool) false (eqL l t) (Nat.beq x.toNat y.toNat) := rfl
   rw [h, eqL_eq l t]
   have e : ((x :: l) == (y :: t)) = ((x == y) && (l == t)) := rfl
   rw [e]
   by_cases hxy : x = y
   ·subst hxy
    have : Nat.beq x.toNat x.toNat = true := Nat.beq_refl _
    rw [this]
    simp
   ·have h1 : Nat.beq x.toNat y.toNat = false := by
     cases hb : Nat.beq x.toNat y.toNat with
     | false => rfl
     | true => exact absurd (UInt8.toNat_inj.1 (Nat.eq_of_beq_eq_true hb)) hxy
    rw [h1]
    simp [hxy]
def eqS (a b : ByteArray) : Bool := eqL a.data.toList b.data.toList
theorem eqS_eq (a b : ByteArray) : eqS a b = (a.toList == b.toList) := by
 unfold eqS
 rw [eqL_eq, ByteArray.toList_eq, ByteArray.toList_eq]
def strQ (op : BinOp) (x y : Value) : Option Value := match x with
 | .string a => match y with
   | .string b => match op with
     | .eql => some (.bool (eqS a b))
     | .neq => some (.bool (!(eqS a b)))
     | _ => none
   | _ => none
 | _ => none
theorem strQ_run {P : Program} {op : BinOp} {t : TypeId} {x y : Operand} {a b v : Value} (h : strQ op a b = some v) (W : World) : (do eqGuard op t x y a b; binOp op t a b : Sem Value).run P W = .ok v W := by
 unfold strQ at h
 split at h
 ·split at h
  ·split at h
   ·injection h with h
    subst h
    rw [eqS_eq]
    rfl
   ·injection h with h
    subst h
    rw [eqS_eq]
    rfl
   ·cases h
  ·cases h
 ·cases h
def quick (P : Program) (ρ : Operand → Value) (o : Oper) : Option Value := match o.op with
 | .pick c x y => match ρ c with
   | .bool b => mergeV b (ρ x) (ρ y)
   | _ => none
 | .move x | .assign x => some (ρ x)
 | .makeFunc fn first captured => some (.func fn (first.toList.map ρ).toArray (captured.toList.map ρ).toArray)
 | .binOp op t x y _ => match isShift op with
   | true => none
   | false => match ρ x, ρ y with
     | .agg xs, .agg ys => eqAggQ P op t xs ys
     | .string a, .string b => strQ op (.string a) (.string b)
     | a, b => twoQ op a b
 | .convert src dst x => match kindOf P src, kindOf P dst with
   | some _, some k => match ρ x with
     | .int _ n => some (.int k (wrapQ k n))
     | _ => none
   | _, _ => none
 | .unOp op _ x => match op, ρ x with
   | .neg, .int k n => some (.int k (wrapQ k (Ex.subQ' 0 n)))
   | .xor, .int k n => some (.int k (Ex.xorQ k (match k.signed with | true => -1 | false => k.max) n))
   | .not, .bool b => some (.bool (!b))
   | _, _ => none
 | .extract t ix => match ρ t with
   | .tuple vs => nth vs.toList ix
   | _ => none
 | .fieldAddr s x f => match ρ x with
   | .pointer (some ⟨b, off, none⟩) => fieldQ P s f b off
   | _ => none
 | _ => none
theorem quick_run {ρ : Operand → Value} {o : Oper} {v : Value} (h : quick P ρ o = some v) (W : World) : (execOp ρ o).run P W = .ok (.value v) W := by
 unfold quick at h
 split at h
 ·rename_i c x y hx
  split at h
  ·rename_i b hc
   rw [mergeV_spec h]
   exact pick_run hx hc W
  ·cases h
 ·rename_i x hx
  injection h with h
  subst h
  unfold execOp
  rw [hx]
  rfl
 ·rename_i x hx
  injection h with h
  subst h
  unfold execOp
  rw [hx]
  rfl
 ·rename_i fn first captured hx
  injection h with h
  subst h
  have e : ∀ l : Array Operand, (l.toList.map ρ).toArray = l.map ρ := fun l => by
   apply Array.ext'
   simp
  rw [e, e]
  unfold execOp
  rw [hx]
  rfl
 ·rename_i op t x y _ hx
  split at h
  ·cases h
  split at h
  ·rename_i xs ys h1 h2
   have := eqAggQ_run (x := x) (y := y) h W
   unfold execOp
   rw [hx]
   simp only [h1, h2]
   exact opV_run this
  ·rename_i a b h1 h2
   have := strQ_run (P := P) (t := t) (x := x) (y := y) h W
   unfold execOp
   rw [hx]
   simp only [h1, h2]
   exact opV_run this
  ·have := twoQ_run (P := P) (t := t) (x := x) (y := y) h W
   unfold execOp
   rw [hx]
   exact opV_run this
 ·rename_i src dst x hx
  split at h
  ·rename_i k0 k hs hd
   split at h
   ·rename_i k1 n hv
    injection h with h
    subst h
    unfold execOp
    rw [hx]
    simp only [hv]
    refine opV_run ?_
    simp [convert, run_underlying (kindOf_spec hs), run_underlying (kindOf_spec hd), Conv.intToInt, wrapQ_eq]
   ·cases h
  ·cases h
 ·rename_i op t x hx
  split at h
  ·rename_i k n hv
   injection h with h
   subst h
   unfold execOp
   rw [hx]
   simp only [hv]
   refine opV_run ?_
   simp [Op.unary, Op.intArith, wrapQ_eq, Ex.subQ_eq]
  ·rename_i k n hv
   injection h with h
   subst h
   unfold execOp
   rw [hx]
   simp only [hv]
   refine opV_run ?_
   cases k <;> simp [Op.unary, Op.intBits, Ex.xorQ_eq, IntKind.signed]
  ·rename_i b hv
   injection h with h
   subst h
   unfold execOp
   rw [hx]
   simp only [hv]
   exact opV_run rfl
  ·cases h
 ·rename_i t ix hx
  split at h
  ·rename_i vs hv
   rw [nth_eq, Array.getElem?_toList] at h
   unfold execOp
   rw [hx]
   simp only [hv]
   refine opV_run ?_
   simp [Instr.extract, h]
  ·cases h
 ·rename_i s x f hx
  split at h
  ·rename_i b off hv
   unfold execOp
   rw [hx]
   simp only [hv]
   exact opV_run (fieldQ_run h W)
  ·cases h
 ·cases h
def storeOf (P : Program) (ρ : Operand → Value) (o : Oper) : Option (Nat × Nat × Value) := match o.op with
 | .store t x v => match ρ x with
   | .pointer (some ⟨b, off, none⟩) => match ρ v with
     | .agg _ => none
     | .tuple _ => none
     | u => match sizeP P t with
       | some n => match Nat.beq n 1 with
         | true => some (b, off, u)
         | false => none
       | none => none
   | _ => none
 | _ => none
theorem storeOf_run {ρ : Operand → Value} {o : Oper} {b off : Nat} {v : Value} (h : storeOf P ρ o = some (b, off, v)) (W : World) : (execOp ρ o).run P W = (match (Go.store ⟨b, off, none⟩ v).run P W with
  | .ok _ w => .ok .skip w
  | .halt h w => .halt h w) := by
 unfold storeOf at h
 split at h
 ·rename_i t x vv ho
  split at h
  ·rename_i b' off' hx
   have key : ∀ u, ρ vv = u → u.cells = #[u] → (match sizeP P t with
    | some n => match Nat.beq n 1 with
      | true => some (b', off', u)
      | false => none
    | none => none) = some (b, off, v) → (execOp ρ o).run P W = (match (Go.store ⟨b, off, none⟩ v).run P W with
      | .ok _ w => .ok .skip w
      | .halt h w => .halt h w) := fun u hu hc h => by
    split at h
    ·rename_i n hn
     split at h
     ·rename_i h1
      have h1 := Nat.eq_of_beq_eq_true h1
      subst h1
      simp only [Option.some.injEq, Prod.mk.injEq] at h
      obtain ⟨rfl, rfl, rfl⟩ := h
      obtain ⟨i, hi, hs⟩ := sizeP_spec hn
      unfold execOp
      rw [ho]
      simp only [hx, hu]
      simp only [Instr.storeAt, Instr.sureAddr, storeVar, sizeOf, typeInfo, storeCells, hc, Sem.run_bind, Sem.run_pure, run_program, hi, hs, Result.andThen_ok]
      simp only [Array.size_singleton, addr_add, Nat.add_zero]
      cases h2 : (Go.store ⟨b', off', none⟩ u).run P W <;> simp [h2, Result.andThen]
     ·cases h
    ·cases h
   cases hv : ρ vv <;> rw [hv] at h <;> first | (cases h; done) | exact key _ hv rfl h
  ·cases h
 ·cases h
def wholeOf (P : Program) (ρ : Operand → Value) (o : Oper) : Option (TypeId × Nat × Nat × Nat × Array Value) := match o.op with
 | .store t x v => match ρ x with
   | .pointer (some ⟨b, off, none⟩) => match ρ v with
     | .agg C => match sizeP P t with
       | some n => some (t, n, b, off, C)
       | none => none
     | _ => none
   | _ => none
 | _ => none
theorem wholeOf_run {ρ : Operand → Value} {o : Oper} {t n b : Nat} {C old : Array Value} {ty : TypeId} (h : wholeOf P ρ o = some (t, n, b, 0, C)) (h1 : old.size = C.size) (h2 : n = C.size) (h3 : C.all (·.oneCell') = true) {W : World} (hW : W.heap[b]? = some (.cells old ty (0, 0))) : (execOp ρ o).run P W = .ok .skip (W.setRow b C) := by
 unfold wholeOf at h
 split at h
 ·rename_i t' x v ho
  split at h
  ·rename_i b' off' hx
   split at h
   ·rename_i C' hv
    split at h
    ·rename_i n' hn
     simp only [Option.some.injEq, Prod.mk.injEq] at h
     obtain ⟨rfl, rfl, rfl, rfl, rfl⟩ := h
     obtain ⟨i, hi, hs⟩ := sizeP_spec hn
     have := run_storeVar_row (P := P) W b' ty t' old C' hW (by rw [hi]; simp [hs, h2]) h1 h3
     unfold execOp
     rw [ho]
     simp [hx, hv, Instr.storeAt, Instr.sureAddr, this]
    ·cases h
   ·cases h
  ·cases h
 ·cases h
def callOf (P : Program) (ρ : Operand → Value) (o : Oper) : Option (FuncId × Array Value) := match o.op with
 | .call c => match c.callee with
   | .value (.func f) => match P.funcs[f]? with
     | some fn => match fn.body with
       | some _ => match fn.name == "runtime.NumGoroutine" with
         | true => none
         | false => some (f, c.args.map ρ)
       | none => none
     | none => none
   | _ => none
 | _ => none
def boundQ (d : Nat) : Option Value → Option Int
 | none => some d
 | some (.int _ i) => some i
 | some _ => none
def offQ (c l off size : Nat) : Nat := match Nat.beq l 0 with
 | true => off
 | false => bif Nat.beq c l then off else Nat.add off (Nat.mul l size)
def cutOk (m l h : Int) : Bool := Ex.leQ 0 l && (Ex.leQ l h && Ex.leQ h m)
def sliceQ (P : Program) (t : TypeId) (x : Value) (lo hi : Option Value) : Option (Bool × Prop × Value) := match P.underlying t with
 | some .string => match x with
   | .string s => match boundQ 0 lo, boundQ s.size hi with
     | some l, some h => some (cutOk s.size l h, 0 ≤ l ∧ l ≤ h ∧ h ≤ s.size, .string (s.extract l.toNat h.toNat))
     | _, _ => none
   | _ => none
 | some (.slice e) => match x with
   | .slice a n c => match P.info? e with
     | some inf => match boundQ 0 lo, hi, boundQ n hi with
       | some l, none, some h => match a with
         | none => some (cutOk n l n, 0 ≤ l ∧ l ≤ (n : Int), .slice none (n - l.toNat) (c - l.toNat))
         | some ⟨b, off, none⟩ => some (cutOk n l n, 0 ≤ l ∧ l ≤ (n : Int), .slice (some ⟨b, offQ c l.toNat off inf.size, none⟩) (n - l.toNat) (c - l.toNat))
         | _ => none
       | some l, some _, some h => match a with
         | none => some (cutOk c l h, 0 ≤ l ∧ l ≤ h ∧ h ≤ (c : Int), .slice none (h.toNat - l.toNat) (c - l.toNat))
         | some ⟨b, off, none⟩ => some (cutOk c l h, 0 ≤ l ∧ l ≤ h ∧ h ≤ (c : Int), .slice (some ⟨b, offQ c l.toNat off inf.size, none⟩) (h.toNat - l.toNat) (c - l.toNat))
         | _ => none
       | _, _, _ => none
     | none => none
   | _ => none
 | some (.array n e) => match x with
   | .pointer (some ⟨b, off, none⟩) => match P.info? e with
     | some inf => match boundQ 0 lo, boundQ n hi with
       | some l, some h => some (cutOk n l h, 0 ≤ l ∧ l ≤ h ∧ h ≤ (n : Int), .slice (some ⟨b, offQ n l.toNat off inf.size, none⟩) (h.toNat - l.toNat) (n - l.toNat))
       | _, _ => none
     | none => none
   | _ => none
 | _ => none
theorem cutOk_spec {m l h : Int} {p : Prop} (hp : cutOk m l h = true ∨ p) (hq : p → 0 ≤ l ∧ l ≤ h ∧ h ≤ m) : 0 ≤ l ∧ l ≤ h ∧ h ≤ m :=
 hp.elim (fun h => by simpa only [cutOk, Bool.and_eq_true, Ex.leQ_eq, decide_eq_true_eq] using h) hq
theorem bound_run {v : Value} {i : Int} {y d : Nat} {code : BoundsCode} (hv : boundQ d (some v) = some i) (h0 : 0 ≤ i) (hy : i ≤ (y : Int)) (W : World) : (Instr.sliceBound v y code).run P W = .ok i.toNat W := by
 unfold boundQ at hv
 split at hv
 ·rename_i he; cases he
 ·rename_i k j he
  injection he with he
  subst he
  injection hv with hv
  subst hv
  simp [Instr.sliceBound, asIntOf, h0, hy]
 ·cases hv
theorem bounds_run {is : Bool} {n c : Nat} {lo hi : Option Value} {l h : Int} (hl : boundQ 0 lo = some l) (hh : boundQ n hi = some h) (h0 : 0 ≤ l) (h1 : l ≤ h) (h2 : hi = none ∨ h ≤ (c : Int)) (W : World) :
  (Instr.sliceBounds is n c lo hi none).run P W = .ok (l.toNat, h.toNat, c) W := by
 unfold Instr.sliceBounds
 cases hi with
 | none =>
   simp only [boundQ, Option.some.injEq] at hh
   subst hh
   cases lo with
   | none =>
     simp only [boundQ, Option.some.injEq] at hl
     subst hl
     simp
   | some v =>
     simp only [Sem.run_bind, Sem.run_pure, Result.andThen_ok, Option.isSome_none, Bool.false_eq_true, if_false]
     rw [bound_run hl h0 h1]
     simp
 | some u =>
   have h2 : h ≤ (c : Int) := h2.resolve_left (fun h => by cases h)
   cases lo with
   | none =>
     simp only [boundQ, Option.some.injEq] at hl
     subst hl
     simp only [Sem.run_bind, Sem.run_pure, Result.andThen_ok]
     rw [bound_run hh (by omega) h2]
     simp
   | some v =>
     simp only [Sem.run_bind, Sem.run_pure, Result.andThen_ok, Option.isSome_none, Bool.false_eq_true, if_false]
     rw [bound_run hh (by omega) h2]
     simp only [Result.andThen_ok]
     rw [bound_run hl h0 (y := h.toNat) (by omega)]
     simp
theorem offQ_spec (b c l off size : Nat) : (if c = l then (⟨b, off, none⟩ : Addr) else (⟨b, off, none⟩ : Addr).add (l * size)) = ⟨b, offQ c l off size, none⟩ := by
 unfold offQ
 cases hz : Nat.beq l 0 with
 | true =>
   obtain rfl := Nat.eq_of_beq_eq_true hz
   rw [Nat.zero_mul, addr_add]
   by_cases h : c = 0 <;> simp [h]
 | false => cases hc : Nat.beq c l with
   | true => rw [if_pos (Nat.eq_of_beq_eq_true hc)]; rfl
   | false => rw [if_neg (fun h => by rw [h, Nat.beq_refl] at hc; cases hc), addr_add]; rfl
theorem sliceQ_run {t : TypeId} {x : Value} {lo hi : Option Value} {bb : Bool} {p : Prop} {v : Value} (h : sliceQ P t x lo hi = some (bb, p, v)) (hp : bb = true ∨ p) (W : World) : (Instr.sliceAt t x lo hi none).run P W = .ok v W := by
 unfold sliceQ at h
 split at h
 ·rename_i hu
  split at h
  ·rename_i s
   split at h
   ·rename_i l h' hl hh
    simp only [Option.some.injEq, Prod.mk.injEq] at h
    obtain ⟨rfl, rfl, rfl⟩ := h
    obtain ⟨h0, h1, h2⟩ := cutOk_spec hp id
    unfold Instr.sliceAt Instr.slice
    simp only [Sem.run_bind, run_underlying hu, Result.andThen_ok, Option.isSome_none, Bool.false_eq_true, if_false, Sem.run_pure]
    rw [bounds_run hl hh h0 h1 (.inr h2)]
    rfl
   ·cases h
  ·cases h
 ·rename_i e hu
  split at h
  ·rename_i a n c
   split at h
   ·rename_i inf hi'
    have key : ∀ {l h' : Int} {a' : Option Addr}, boundQ 0 lo = some l → boundQ n hi = some h' → 0 ≤ l → l ≤ h' → (hi = none ∨ h' ≤ (c : Int)) → (if c = l.toNat then a else a.map (·.add (l.toNat * inf.size))) = a' →
      (Instr.sliceAt t (.slice a n c) lo hi none).run P W = .ok (.slice a' (h'.toNat - l.toNat) (c - l.toNat)) W := fun hl hh h0 h1 h2 ha => by
     unfold Instr.sliceAt Instr.slice
     simp only [Sem.run_bind, run_underlying hu, Result.andThen_ok, Sem.run_pure]
     rw [bounds_run hl hh h0 h1 h2]
     simp [sizeOf, typeInfo, hi', ha]
    split at h
    ·rename_i l h' hl hh
     have hle : h' = (n : Int) := by simp only [boundQ, Option.some.injEq] at hh; exact hh.symm
     subst hle
     split at h
     ·simp only [Option.some.injEq, Prod.mk.injEq] at h
      obtain ⟨rfl, rfl, rfl⟩ := h
      obtain ⟨h0, h1, h2⟩ := cutOk_spec hp (fun h => ⟨h.1, h.2, Int.le_refl _⟩)
      exact key hl hh h0 h1 (.inl rfl) (by split <;> rfl)
     ·rename_i b off
      simp only [Option.some.injEq, Prod.mk.injEq] at h
      obtain ⟨rfl, rfl, rfl⟩ := h
      obtain ⟨h0, h1, h2⟩ := cutOk_spec hp (fun h => ⟨h.1, h.2, Int.le_refl _⟩)
      refine key hl hh h0 h1 (.inl rfl) ?_
      rw [← offQ_spec]
      split <;> rfl
     ·cases h
    ·rename_i l u h' hl hh
     split at h
     ·simp only [Option.some.injEq, Prod.mk.injEq] at h
      obtain ⟨rfl, rfl, rfl⟩ := h
      obtain ⟨h0, h1, h2⟩ := cutOk_spec hp id
      exact key hl hh h0 h1 (.inr h2) (by split <;> rfl)
     ·rename_i b off
      simp only [Option.some.injEq, Prod.mk.injEq] at h
      obtain ⟨rfl, rfl, rfl⟩ := h
      obtain ⟨h0, h1, h2⟩ := cutOk_spec hp id
      refine key hl hh h0 h1 (.inr h2) ?_
      rw [← offQ_spec]
      split <;> rfl
     ·cases h
    ·cases h
   ·cases h
  ·cases h
 ·rename_i n e hu
  split at h
  ·rename_i b off
   split at h
   ·rename_i inf hi'
    split at h
    ·rename_i l h' hl hh
     simp only [Option.some.injEq, Prod.mk.injEq] at h
     obtain ⟨rfl, rfl, rfl⟩ := h
     obtain ⟨h0, h1, h2⟩ := cutOk_spec hp id
     unfold Instr.sliceAt
     simp only [Sem.run_bind, run_underlying hu, Result.andThen_ok, Sem.run_pure, Instr.sureAddr]
     rw [bounds_run hl hh h0 h1 (.inr h2)]
     simp [sizeOf, typeInfo, hi', ← offQ_spec]
    ·cases h
   ·cases h
  ·cases h
 ·cases h
def byteQ (s : ByteArray) (i : Nat) : Int := match nth s.data.toList i with
 | some b => Int.ofNat b.toNat
 | none => 0
theorem byteQ_spec {s : ByteArray} {i : Nat} (h : i < s.size) : ∃ b, s[i]? = some b ∧ byteQ s i = (b.toNat : Int) := by
 have h1 : i < s.data.size := h
 refine ⟨s.data[i], ?_, ?_⟩
 ·have : s[i]? = some s[i] := by simp [h]
  rw [this]
  rfl
 ·unfold byteQ
  rw [nth_eq, Array.getElem?_toList, Array.getElem?_eq_getElem h1]
  rfl
def catL (l t : List UInt8) : List UInt8 := @List.rec UInt8 (fun _ => List UInt8) t (fun x _ ih => x :: ih) l
theorem catL_eq : ∀ l t : List UInt8, catL l t = l ++ t
 | [], _ => rfl
 | x :: l, t => by
   show x :: catL l t = _
   rw [catL_eq l t]
   rfl
def catS (a b : ByteArray) : ByteArray := ⟨⟨catL a.data.toList b.data.toList⟩⟩
theorem catS_eq (a b : ByteArray) : catS a b = a ++ b := by
 apply ByteArray.ext
 apply Array.ext'
 show catL _ _ = _
 rw [catL_eq]
 simp
theorem cat_run {P : Program} {t : TypeId} {x y : Operand} {a b : ByteArray} (h : a.size + b.size ≤ 1099511627776) (W : World) : (do eqGuard .add t x y (.string a) (.string b); binOp .add t (.string a) (.string b) : Sem Value).run P W = .ok (.string (catS a b)) W := by
 rw [catS_eq]
 have e : IntKind.i64.max = 9223372036854775807 := by decide +kernel
 have hn : ¬ (((a.size + b.size : Nat) : Int) > IntKind.i64.max) := by rw [e]; omega
 simp only [eqGuard, binOp, Op.stringOp]
 rw [if_neg hn]
 rfl
def symQ (P : Program) (ρ : Operand → Value) (o : Oper) : Option (Bool × Prop × Value) := match o.op with
 | .indexAddr t x ix => match ρ x, ρ ix with
   | .slice (some ⟨b, off, none⟩) n _, .int _ i => match P.underlying t with
     | some (.slice el) => match P.info? el with
       | some inf => some (Ex.leQ 0 i && Ex.ltQ i (n : Int), 0 ≤ i ∧ i < (n : Int), .pointer (some ⟨b, off + i.toNat * inf.size, none⟩))
       | none => none
     | _ => none
   | .pointer (some ⟨b, off, none⟩), .int _ i => match P.underlying t with
     | some (.array n el) => match P.info? el with
       | some inf => some (Ex.leQ 0 i && Ex.ltQ i (n : Int), 0 ≤ i ∧ i < (n : Int), .pointer (some ⟨b, off + i.toNat * inf.size, none⟩))
       | none => none
     | _ => none
   | _, _ => none
 | .binOp .shl _ x y _ => match ρ x, ρ y with
   | .int k a, .int _ n => some (Ex.leQ 0 n, 0 ≤ n, .int k (Ex.shlQ k a n.toNat))
   | _, _ => none
 | .binOp .shr _ x y _ => match ρ x, ρ y with
   | .int k a, .int _ n => some (Ex.leQ 0 n, 0 ≤ n, .int k (Ex.shrQ k a n.toNat))
   | _, _ => none
 | .binOp .add _ x y _ => match ρ x, ρ y with
   | .string a, .string b => some (Nat.ble (Nat.add a.size b.size) 1099511627776, a.size + b.size ≤ 1099511627776, .string (catS a b))
   | _, _ => none
 | .slice t x lo hi none => sliceQ P t (ρ x) (lo.map ρ) (hi.map ρ)
 | .index t x ix => match ρ x, ρ ix with
   | .string s, .int _ i => match P.underlying t with
     | some .string => some (Ex.leQ 0 i && Ex.ltQ i (s.size : Int), 0 ≤ i ∧ i < (s.size : Int), .int .u8 (byteQ s i.toNat))
     | _ => none
   | _, _ => none
 | _ => none
theorem symQ_run {ρ : Operand → Value} {o : Oper} {bb : Bool} {p : Prop} {v : Value} (h : symQ P ρ o = some (bb, p, v)) (hp : bb = true ∨ p) (W : World) : (execOp ρ o).run P W = .ok (.value v) W := by
 unfold symQ at h
 split at h
 ·rename_i t x ix ho
  split at h
  ·rename_i b off n c k i h1 h2
   split at h
   ·rename_i el hu
    split at h
    ·rename_i inf hi
     simp only [Option.some.injEq, Prod.mk.injEq] at h
     obtain ⟨rfl, rfl, rfl⟩ := h
     have hp := hp.elim (fun h => by simpa only [Bool.and_eq_true, Ex.leQ_eq, Ex.ltQ_eq, decide_eq_true_eq] using h) id
     unfold execOp
     rw [ho]
     simp only [h1, h2]
     refine opV_run ?_
     simp [Instr.indexAt, run_underlying hu, sizeOf, typeInfo, hi, asIntOf, hp, addr_add]
    ·cases h
   ·cases h
  ·rename_i b off k i h1 h2
   split at h
   ·rename_i n el hu
    split at h
    ·rename_i inf hi
     simp only [Option.some.injEq, Prod.mk.injEq] at h
     obtain ⟨rfl, rfl, rfl⟩ := h
     have hp := hp.elim (fun h => by simpa only [Bool.and_eq_true, Ex.leQ_eq, Ex.ltQ_eq, decide_eq_true_eq] using h) id
     unfold execOp
     rw [ho]
     simp only [h1, h2]
     refine opV_run ?_
     simp [Instr.indexAt, run_underlying hu, sizeOf, typeInfo, hi, asIntOf, hp, addr_add, Instr.sureAddr]
    ·cases h
   ·cases h
  ·cases h
 ·rename_i t x y tt ho
  split at h
  ·rename_i k a k' n h1 h2
   simp only [Option.some.injEq, Prod.mk.injEq] at h
   obtain ⟨rfl, rfl, rfl⟩ := h
   have hp : 0 ≤ n := hp.elim (fun h => by simpa only [Ex.leQ_eq, decide_eq_true_eq] using h) id
   have hn : n = ((n.toNat : Nat) : Int) := by omega
   have := Ex.shQ_run (P := P) (op := .shl) (f := Ex.shlQ) (.inl ⟨rfl, rfl⟩) (t := t) (x := x) (y := y) (a := .int k a) (b := .int k' (.ofNat n.toNat)) rfl W
   unfold execOp
   rw [ho]
   simp only [h1, h2]
   rw [hn]
   exact opV_run this
  ·cases h
 ·rename_i t x y tt ho
  split at h
  ·rename_i k a k' n h1 h2
   simp only [Option.some.injEq, Prod.mk.injEq] at h
   obtain ⟨rfl, rfl, rfl⟩ := h
   have hp : 0 ≤ n := hp.elim (fun h => by simpa only [Ex.leQ_eq, decide_eq_true_eq] using h) id
   have hn : n = ((n.toNat : Nat) : Int) := by omega
   have := Ex.shQ_run (P := P) (op := .shr) (f := Ex.shrQ) (.inr ⟨rfl, rfl⟩) (t := t) (x := x) (y := y) (a := .int k a) (b := .int k' (.ofNat n.toNat)) rfl W
   unfold execOp
   rw [ho]
   simp only [h1, h2]
   rw [hn]
   exact opV_run this
  ·cases h
 ·rename_i t x y tt ho
  split at h
  ·rename_i a b h1 h2
   simp only [Option.some.injEq, Prod.mk.injEq] at h
   obtain ⟨rfl, rfl, rfl⟩ := h
   have hp : a.size + b.size ≤ 1099511627776 := hp.elim (fun h => Nat.le_of_ble_eq_true h) id
   unfold execOp
   rw [ho]
   simp only [h1, h2]
   exact opV_run (cat_run hp W)
  ·cases h
 ·rename_i t x lo hi ho
  unfold execOp
  rw [ho]
  exact opV_run (sliceQ_run h hp W)
 ·rename_i t x ix ho
  split at h
  ·rename_i s k i h1 h2
   split at h
   ·rename_i hu
    simp only [Option.some.injEq, Prod.mk.injEq] at h
    obtain ⟨rfl, rfl, rfl⟩ := h
    have hp := hp.elim (fun h => by simpa only [Bool.and_eq_true, Ex.leQ_eq, Ex.ltQ_eq, decide_eq_true_eq] using h) id
    obtain ⟨b, hb, he⟩ := byteQ_spec (s := s) (i := i.toNat) (by omega)
    unfold execOp
    rw [ho]
    simp only [h1, h2]
    refine opV_run ?_
    simp [Instr.index, asIntOf, run_underlying hu, hp.1, hb, he]
   ·cases h
  ·cases h
 ·cases h
theorem callOf_run {ρ : Operand → Value} {o : Oper} {f : FuncId} {args : Array Value} (hρ : ∀ g, ρ (.func g) = .func (.func g) #[] #[]) (h : callOf P ρ o = some (f, args)) (W : World) : (execOp ρ o).run P W = .ok (.enter f args) W := by
 unfold callOf at h
 split at h
 ·rename_i c ho
  split at h
  ·rename_i g hc
   split at h
   ·rename_i fn hfn
    split at h
    ·rename_i b hb
     split at h
     ·cases h
     ·rename_i hname
      simp only [Option.some.injEq, Prod.mk.injEq] at h
      obtain ⟨rfl, rfl⟩ := h
      unfold execOp
      rw [ho]
      have hne : ¬ fn.name = "runtime.NumGoroutine" := by simpa using hname
      simp [resolve, hc, hρ, Deferred.ofValue, invoke, callFunc, hfn, hb, hne]
    ·cases h
   ·cases h
  ·cases h
 ·cases h
def isOne (v : Value) : Bool := match v with
 | .agg _ => false
 | .tuple _ => false
 | _ => true
def makeOf (P : Program) (ρ : Operand → Value) (o : Oper) : Option (TypeId × Value × Nat × Int × Value × Value) := match o.op with
 | .makeSlice t l c => match ρ l with
   | .int k n => match P.underlying t with
     | some (.slice e) => match P.info? e with
       | some i => match i.zero with
         | some z => match Nat.beq i.size 1 && isOne z with
           | true => some (e, z, i.bytes, n, .int k n, ρ c)
           | false => none
         | none => none
       | none => none
     | _ => none
   | _ => none
 | _ => none
theorem madeCells_one {z : Value} (hz : isOne z = true) (n : Nat) : (madeCells z.cells n).toList = List.replicate n z := by
 have : z.cells = #[z] := by cases z <;> first | rfl | cases hz
 unfold madeCells
 rw [this]
 apply List.ext_getElem
 ·simp
 ·intro i h1 h2
  simp [Nat.mod_one]
theorem makeOf_run {ρ : Operand → Value} {o : Oper} {e : TypeId} {z : Value} {bytes : Nat} {n : Int} {lv cv : Value} (h : makeOf P ρ o = some (e, z, bytes, n, lv, cv)) (hs : lv = cv) (h0 : 0 ≤ n) (hb : n.toNat * bytes ≤ 281474976710656) (hm : n.toNat ≤ maxLen) (W : World) :
  ∃ C : Array Value, C.toList = List.replicate n.toNat z ∧ (execOp ρ o).run P W = .ok (.value (.slice (some ⟨W.heap.size, 0, none⟩) n.toNat n.toNat)) (W.alloc (.cells C e)) := by
 unfold makeOf at h
 split at h
 ·rename_i t l c ho
  split at h
  ·rename_i k n' hl
   split at h
   ·rename_i e' hu
    split at h
    ·rename_i i hi
     split at h
     ·rename_i z' hz
      split at h
      ·rename_i hc
       simp only [Option.some.injEq, Prod.mk.injEq] at h
       obtain ⟨rfl, rfl, rfl, rfl, rfl, rfl⟩ := h
       rw [Bool.and_eq_true, Nat.beq_eq] at hc
       refine ⟨_, madeCells_one hc.2 _, ?_⟩
       unfold execOp
       rw [ho]
       simp only [hl, ← hs]
       refine opV_run ?_
       have e1 : (n'.toNat : Int) = n' := by omega
       have hb' : (i.bytes : Int) * n' ≤ 281474976710656 := by
        have hb2 : ((i.bytes * n'.toNat : Nat) : Int) ≤ 281474976710656 := by
         rw [Nat.mul_comm] at hb
         generalize i.bytes * n'.toNat = q at *
         omega
        rw [← e1, ← Int.natCast_mul]
        exact hb2
       have hm' : n' ≤ 9223372036854775807 := by
        have hm2 : maxLen = 9223372036854775807 := by rfl
        omega
       have := run_make (P := P) W t e' i z' hu hi hz k k n' n' h0 (Int.le_refl _) hb' hm'
       rw [hc.1, Nat.mul_one] at this
       exact this
      ·cases h
     ·cases h
    ·cases h
   ·cases h
  ·cases h
 ·cases h
def mmOf (ρ : Operand → Value) (o : Oper) : Option Value := match o.op with
 | .call c => match c.callee with
   | .builtin .max => match c.args.toList with
     | [x, y] => match ρ x, ρ y with
       | .int k a, .int _ b => some (.int k (bif Ex.ltQ a b then b else a))
       | _, _ => none
     | _ => none
   | .builtin .min => match c.args.toList with
     | [x, y] => match ρ x, ρ y with
       | .int k a, .int _ b => some (.int k (bif Ex.ltQ b a then b else a))
       | _, _ => none
     | _ => none
   | _ => none
 | _ => none
theorem mmOf_run {ρ : Operand → Value} {o : Oper} {v : Value} (h : mmOf ρ o = some v) (W : World) : (execOp ρ o).run P W = .ok (.value v) W := by
 unfold mmOf at h
 split at h
 ·rename_i c ho
  split at h
  ·rename_i hb
   split at h
   ·rename_i x y ha
    split at h
    ·rename_i k a k' b h1 h2
     injection h with h
     subst h
     have ha' : c.args = #[x, y] := by rw [← Array.toList_inj]; exact ha
     unfold execOp
     rw [ho]
     simp [resolve, hb, ha', h1, h2, invoke, builtin, run_max_int2, Ex.ltQ_eq, cond_eq_ite]
    ·cases h
   ·cases h
  ·rename_i hb
   split at h
   ·rename_i x y ha
    split at h
    ·rename_i k a k' b h1 h2
     injection h with h
     subst h
     have ha' : c.args = #[x, y] := by rw [← Array.toList_inj]; exact ha
     unfold execOp
     rw [ho]
     simp [resolve, hb, ha', h1, h2, invoke, builtin, run_min_int2, Ex.ltQ_eq, cond_eq_ite]
    ·cases h
   ·cases h
  ·cases h
 ·cases h
def peqOf (P : Program) (ρ : Operand → Value) (o : Oper) : Option (Bool × Nat × Nat × Nat × Nat) := match o.op with
 | .binOp op t x y _ => match op with
   | .eql => match ρ x, ρ y with
     | .pointer (some ⟨b1, o1, none⟩), .pointer (some ⟨b2, o2, none⟩) => match P.underlying t with
       | some (.pointer e) => match sizeP P e with
         | some n => match Nat.beq n 0 with
           | true => none
           | false => some (false, b1, o1, b2, o2)
         | none => none
       | _ => none
     | _, _ => none
   | .neq => match ρ x, ρ y with
     | .pointer (some ⟨b1, o1, none⟩), .pointer (some ⟨b2, o2, none⟩) => match P.underlying t with
       | some (.pointer e) => match sizeP P e with
         | some n => match Nat.beq n 0 with
           | true => none
           | false => some (true, b1, o1, b2, o2)
         | none => none
       | _ => none
     | _, _ => none
   | _ => none
 | _ => none
theorem peqOf_run {ρ : Operand → Value} {o : Oper} {neg : Bool} {b1 o1 b2 o2 : Nat} (h : peqOf P ρ o = some (neg, b1, o1, b2, o2)) {r : Bool} {W : World} (hr : (sameAddr ⟨b1, o1, none⟩ ⟨b2, o2, none⟩).run P W = .ok r W) :
  (execOp ρ o).run P W = .ok (.value (.bool (bif neg then !r else r))) W := by
 have key : ∀ {t e : TypeId} {n : Nat}, P.underlying t = some (.pointer e) → sizeP P e = some n → n ≠ 0 → ∀ d : Nat, (Op.equalIn (d + 1) t (.pointer (some ⟨b1, o1, none⟩)) (.pointer (some ⟨b2, o2, none⟩))).run P W = .ok r W := fun hu hn h0 d => by
  obtain ⟨i, hi, hs⟩ := sizeP_spec hn
  subst hs
  simp [Op.equalIn, run_underlying hu, sizeOf, typeInfo, hi, h0, hr]
 unfold peqOf at h
 split at h
 ·rename_i op t x y tt ho
  split at h
  ·split at h
   ·rename_i h1 h2
    split at h
    ·rename_i e hu
     split at h
     ·rename_i n hn
      split at h
      ·cases h
      ·rename_i h0
       simp only [Option.some.injEq, Prod.mk.injEq] at h
       obtain ⟨rfl, rfl, rfl, rfl, rfl⟩ := h
       have h0 : n ≠ 0 := fun he => by subst he; cases h0
       have hk := key hu hn h0 9999
       unfold execOp
       rw [ho]
       simp only [h1, h2]
       refine opV_run ?_
       simp [eqGuard, binOp, Op.equal, Op.maxDepth, hk]
     ·cases h
    ·cases h
   ·cases h
  ·split at h
   ·rename_i h1 h2
    split at h
    ·rename_i e hu
     split at h
     ·rename_i n hn
      split at h
      ·cases h
      ·rename_i h0
       simp only [Option.some.injEq, Prod.mk.injEq] at h
       obtain ⟨rfl, rfl, rfl, rfl, rfl⟩ := h
       have h0 : n ≠ 0 := fun he => by subst he; cases h0
       have hk := key hu hn h0 9999
       unfold execOp
       rw [ho]
       simp only [h1, h2]
       refine opV_run ?_
       simp [eqGuard, binOp, Op.equal, Op.maxDepth, hk]
     ·cases h
    ·cases h
   ·cases h
  ·cases h
 ·cases h
def plainCt : Cont → Bool
 | .obj (.cells _ _ (lo, hi)) => Nat.beq lo 0 && Nat.beq hi 0
 | .row .. => true
 | _ => false
theorem plainCt_spec {ct : Cont} {h : Option Obj} (hp : plainCt ct = true) (hs : ct.sat h) : ∃ c t, h = some (.cells c t (0, 0)) := by
 cases ct with
 | obj o =>
   cases o with
   | cells c t f =>
     obtain ⟨lo, hi⟩ := f
     simp only [plainCt, Bool.and_eq_true, Nat.beq_eq] at hp
     obtain ⟨rfl, rfl⟩ := hp
     exact ⟨c, t, hs⟩
   | _ => cases hp
 | row e size n cap xs =>
   obtain ⟨cur, h, -⟩ := hs
   exact ⟨cur, e, h⟩
 | seg off xs => cases hp
section
variable {α : Type}
def peqT (L : List Blk) (b1 o1 b2 o2 : Nat) (k : Bool → T α) : T α := .or (.pick b1 [b2, b1]) (two (.same (.nat b1) (.nat b2) (k (Nat.beq o1 o2)))
 (pickT L b1 fun p i => pickT L b2 fun q j => match Nat.beq i j with
  | true => .fail
  | false => match (p.own || q.own) && (plainCt p.ct && plainCt q.ct) with
    | true => k false
    | false => match plainCt p.ct && plainCt q.ct with
      | true => k (Nat.beq b1 b2 && Nat.beq o1 o2)
      | false => .fail))
theorem peqT_spec {L : List Blk} {b1 o1 b2 o2 : Nat} {k : Bool → T α} {K : α → Prop} (h : (peqT L b1 o1 b2 o2 k).all K) {w0 W : World} {keep : Nat → Prop} (hr : Rep w0 keep L W) :
  ∃ r, (k r).all K ∧ (sameAddr ⟨b1, o1, none⟩ ⟨b2, o2, none⟩).run P W = .ok r W := by
 obtain ⟨j, h⟩ := h
 cases j with
 | zero =>
   obtain ⟨h1, h⟩ := h
   have h1 := tok_nat h1
   subst h1
   refine ⟨_, h, ?_⟩
   simp only [sameAddr]
   by_cases ho : o1 = o2
   ·subst ho
    simp
   ·have : Nat.beq o1 o2 = false := by
     cases hb : Nat.beq o1 o2 with
     | false => rfl
     | true => exact absurd (Nat.eq_of_beq_eq_true hb) ho
    simp [this, ho]
 | succ j =>
   obtain ⟨p, i, hi, e1, h⟩ := pickT_spec h
   obtain ⟨q, j, hj, e2, h⟩ := pickT_spec h
   split at h
   ·exact h.elim
   ·rename_i hne
    have hne : i ≠ j := fun he => by subst he; rw [Nat.beq_refl] at hne; cases hne
    split at h
    ·rename_i hc
     simp only [Bool.and_eq_true] at hc
     obtain ⟨h1, h2, h3⟩ := hc
     obtain ⟨c1, t1, g1⟩ := plainCt_spec h2 (hr.at hi)
     obtain ⟨c2, t2, g2⟩ := plainCt_spec h3 (hr.at hj)
     have hf := far_ne hr.far hi hj hne h1
     rw [← e1] at g1
     rw [← e2] at g2
     refine ⟨false, h, run_sameAddr_other W (fun he => hf ?_) g1 g2⟩
     rw [← e1, ← e2]
     exact congrArg Addr.block he
    ·split at h
     ·rename_i hc
      simp only [Bool.and_eq_true] at hc
      obtain ⟨h2, h3⟩ := hc
      obtain ⟨c1, t1, g1⟩ := plainCt_spec h2 (hr.at hi)
      obtain ⟨c2, t2, g2⟩ := plainCt_spec h3 (hr.at hj)
      rw [← e1] at g1
      rw [← e2] at g2
      refine ⟨_, h, ?_⟩
      by_cases hb : b1 = b2
      ·subst hb
       simp only [sameAddr]
       by_cases ho : o1 = o2
       ·subst ho
        simp
       ·have : Nat.beq o1 o2 = false := by
         cases hb : Nat.beq o1 o2 with
         | false => rfl
         | true => exact absurd (Nat.eq_of_beq_eq_true hb) ho
        simp [this, ho]
      ·have : Nat.beq b1 b2 = false := by
        cases hb' : Nat.beq b1 b2 with
        | false => rfl
        | true => exact absurd (Nat.eq_of_beq_eq_true hb') hb
       rw [this, Bool.false_and]
       exact run_sameAddr_other W (fun he => hb (congrArg Addr.block he)) g1 g2
     ·exact h.elim
def samePT (L : List Blk) (x y : Option Addr) (k : Bool → T α) : T α := match x with
 | none => match y with
   | none => k true
   | some _ => k false
 | some a => match y with
   | none => k false
   | some b => match a, b with
     | ⟨b1, o1, none⟩, ⟨b2, o2, none⟩ => peqT L b1 o1 b2 o2 k
     | _, _ => .fail
theorem samePT_spec {L : List Blk} {x y : Option Addr} {k : Bool → T α} {K : α → Prop} (h : (samePT L x y k).all K) {w0 W : World} {keep : Nat → Prop} (hr : Rep w0 keep L W) :
  ∃ r, (k r).all K ∧ (samePointer x y).run P W = .ok r W := by
 unfold samePT at h
 split at h
 ·split at h
  ·exact ⟨_, h, rfl⟩
  ·exact ⟨_, h, rfl⟩
 ·split at h
  ·exact ⟨_, h, rfl⟩
  ·split at h
   ·exact peqT_spec h hr
   ·exact h.elim
def casT (L : List Blk) (b o : Nat) (old new : Option Addr) (k : Bool → List Blk → T α) : T α := pickT L b fun p j => match plainCt p.ct with
 | false => .fail
 | true => match p.ct.at o with
   | some (.pointer cur) => samePT L cur old fun r => .cond r (putT L p j ⟨b, o, none⟩ (.pointer new) fun L' => k true L') (k false L)
   | _ => .fail
end
def casOf (P : Program) (ρ : Operand → Value) (o : Oper) : Option (Nat × Nat × Option Addr × Option Addr) := match o.op with
 | .call c => match c.callee with
   | .value (.func f) => match P.funcs[f]? with
     | some fn => match fn.body with
       | none => match fn.name == "sync/atomic.CompareAndSwapPointer" with
         | true => match Extern.findNext fn with
           | none => match c.args.toList with
             | [x, y, z] => match ρ x, ρ y, ρ z with
               | .pointer (some ⟨b, off, none⟩), .pointer old, .pointer new => some (b, off, old, new)
               | _, _, _ => none
             | _ => none
           | some _ => none
         | false => none
       | some _ => none
     | none => none
   | _ => none
 | _ => none
theorem find_cas {fn : Func} (h : fn.name = "sync/atomic.CompareAndSwapPointer") : Extern.find fn = some (Extern.Atomic.casT .ptr) := by
 have h1 : Extern.allGenericRows.lookup "sync/atomic.CompareAndSwapPointer" = none := by kernel_rfl
 have h2 : Extern.allTypedRows.lookup "sync/atomic.CompareAndSwapPointer" = none := by kernel_rfl
 have h3 : Extern.allRows.lookup "sync/atomic.CompareAndSwapPointer" = some (Extern.Atomic.casT .ptr) := by kernel_rfl
 unfold Extern.find
 rw [h]
 simp only [h1, h2, h3]
 rfl
theorem frozen_plain {W : World} {b o : Nat} {c : Array Value} {t : TypeId} (h : W.heap[b]? = some (.cells c t (0, 0))) : W.frozen? ⟨b, o, none⟩ = false := by
 rw [Ev.frozen_of rfl h]
 simp
def casPB (a : Addr) (old new : Option Addr) : Sem Value := do
 let a' ← asAddr (.pointer (some a))
 if ← Extern.Atomic.touchesFrozen a' then unsupported (.unsafePointer "a write to bytes that a string shares")
 let eq ← match Extern.Atomic.T.ptr, ← Extern.Atomic.read .ptr a', Value.pointer old with
  | _, .int _ x, .int _ y => pure (x == y)
  | .ptr, .pointer x, .pointer y => samePointer x y
  | .int _, .pointer (some _), .int _ 0 | .int _, .int _ 0, .pointer (some _) => pure false
  | .int _, .pointer (some _), _ | .int _, _, .pointer (some _) => unsupported .addressObserved
  | _, _, _ => stuck "atomic.CompareAndSwap: old is no T"
 if eq then store a' (.pointer new) .atomic
 pure (Value.bool eq)
theorem casPB_eq (a : Addr) (old new : Option Addr) : Extern.Atomic.casT .ptr #[.pointer (some a), .pointer old, .pointer new] = casPB a old new := rfl
theorem casOf_run {ρ : Operand → Value} {o : Oper} {b off : Nat} {old new : Option Addr} (hρ : ∀ g, ρ (.func g) = .func (.func g) #[] #[]) (h : casOf P ρ o = some (b, off, old, new)) {W : World} {c : Array Value} {t : TypeId} {cur : Option Addr} {r : Bool}
  (hat : W.heap[b]? = some (.cells c t (0, 0))) (hc : W.cell? ⟨b, off, none⟩ = some (.pointer cur)) (hs : (samePointer cur old).run P W = .ok r W) :
  (execOp ρ o).run P W = .ok (.value (.bool r)) (if r = true then W.setCell ⟨b, off, none⟩ (.pointer new) else W) := by
 unfold casOf at h
 split at h
 ·rename_i cc ho
  split at h
  ·rename_i f hcal
   split at h
   ·rename_i fn hfn
    split at h
    ·rename_i hb
     split at h
     ·rename_i hname
      split at h
      ·rename_i hnext
       split at h
       ·rename_i x y z ha
        split at h
        ·rename_i b' off' old' new' h1 h2 h3
         simp only [Option.some.injEq, Prod.mk.injEq] at h
         obtain ⟨e1, e2, e3, e4⟩ := h
         rw [e1, e2] at h1
         rw [e3] at h2
         rw [e4] at h3
         have hname : fn.name = "sync/atomic.CompareAndSwapPointer" := by simpa using hname
         have ha' : cc.args = #[x, y, z] := by rw [← Array.toList_inj]; exact ha
         have hfind := find_cas hname
         have hrow : (Extern.Atomic.casT .ptr #[.pointer (some ⟨b, off, none⟩), .pointer old, .pointer new]).run P W = .ok (.bool r) (if r = true then W.setCell ⟨b, off, none⟩ (.pointer new) else W) := by
          have hfz := frozen_plain (o := off) hat
          have hsh : (W.shape? b).isSome = true := by simp [World.shape?, hat]
          rw [casPB_eq]
          cases r <;> simp [casPB, Extern.Atomic.touchesFrozen, Extern.Atomic.read, asAddr, viewAt, hsh, hc, hfz, hs, run_store P W ⟨b, off, none⟩ (.pointer new) .atomic rfl, Result.andThen]
         have hne : ¬ fn.name = "runtime.NumGoroutine" := by rw [hname]; decide
         unfold execOp
         rw [ho]
         simp [resolve, hcal, hρ, Deferred.ofValue, invoke, callFunc, hfn, hb, hne, hnext, hfind, ha', h1, h2, h3, hrow]
        ·cases h
       ·cases h
      ·cases h
     ·cases h
    ·cases h
   ·cases h
  ·cases h
 ·cases h
def lenOf (P : Program) (ρ : Operand → Value) (o : Oper) : Option Value := match o.op with
 | .call c => match c.callee with
   | .builtin .len => match c.args.toList with
     | [x] => match c.argTypes.toList with
       | [t] => match ρ x with
         | .string s => match P.underlying t with
           | some .string => some (.int .i64 (Int.ofNat s.size))
           | _ => none
         | .slice _ n _ => match P.underlying t with
           | some (.slice _) => some (.int .i64 (Int.ofNat n))
           | _ => none
         | _ => none
       | _ => none
     | _ => none
   | _ => none
 | _ => none
theorem lenOf_run {ρ : Operand → Value} {o : Oper} {v : Value} (h : lenOf P ρ o = some v) (W : World) : (execOp ρ o).run P W = .ok (.value v) W := by
 unfold lenOf at h
 split at h
 ·rename_i c ho
  split at h
  ·rename_i hb
   split at h
   ·rename_i x ha
    split at h
    ·rename_i t ht
     have ha' : c.args = #[x] := by rw [← Array.toList_inj]; exact ha
     have ht' : c.argTypes = #[t] := by rw [← Array.toList_inj]; exact ht
     split at h
     ·rename_i s hx
      split at h
      ·rename_i hu
       injection h with h
       subst h
       unfold execOp
       rw [ho]
       simp [resolve, hb, ha', ht', hx, invoke, builtin, Builtin.len_, run_underlying hu, goInt]
      ·cases h
     ·rename_i a n cc hx
      split at h
      ·rename_i hu
       injection h with h
       subst h
       unfold execOp
       rw [ho]
       simp [resolve, hb, ha', ht', hx, invoke, builtin, Builtin.len_, run_underlying hu, goInt]
      ·cases h
     ·cases h
    ·cases h
   ·cases h
  ·cases h
 ·cases h
def bytesOf (P : Program) (ρ : Operand → Value) (o : Oper) : Option (TypeId × ByteArray) := match o.op with
 | .convert src dst x => match ρ x with
   | .string s => match P.underlying src with
     | some .string => match P.underlying dst with
       | some (.slice e) => match P.underlying e with
         | some (.int .u8) => some (e, s)
         | _ => none
       | _ => none
     | _ => none
   | _ => none
 | _ => none
def bytesV (s : ByteArray) : List Value := s.data.toList.map fun b => .int .u8 b.toNat
def bytesC (n : Nat) (l : List Value) : OpC := ⟨⟨[], [], 2, []⟩, [(⟨fun _ => True, fun ns => [(num ns 0, .seg 0 l)], fun _ => []⟩, fun ns => some (.slice (some ⟨num ns 0, 0, none⟩) n (Nat.add (num ns 1) n)))]⟩
theorem bytesOf_met {ρ : Operand → Value} {o : Oper} {e : TypeId} {s : ByteArray} (h : bytesOf P ρ o = some (e, s)) : OpMeets P (execOp ρ o) (bytesC s.size (bytesV s)) := by
 unfold bytesOf at h
 split at h
 ·rename_i src dst x ho
  split at h
  ·rename_i s' hx
   split at h
   ·rename_i h1
    split at h
    ·rename_i e' h2
     split at h
     ·rename_i h3
      injection h with h
      injection h with h4 h5
      subst h4 h5
      intro W _
      have hrun := run_bytes_of_string (P := P) W src dst e' s' h1 h2 h3
      obtain ⟨d, hd⟩ : ∃ d, grownCap W s'.size 0 e' = Nat.add d s'.size := ⟨_, (Nat.sub_add_cancel (grownCap_ge W s'.size 0 e')).symm⟩
      rw [hd] at hrun
      have he : (execOp ρ o).run P W = (opV (convert src dst (.string s'))).run P W := by
       unfold execOp
       rw [ho]
       simp [hx, opV]
      refine ⟨_, Sy.mS _, [⟨W.heap.size, 0, false, undef, [], []⟩, ⟨d, 0, false, undef, [], []⟩], _, he.trans (opV_run hrun), rfl, trivial, rfl, rfl, rfl, ?_, fun k hk _ => ?_, fun p hp => ?_, by simp, fun _ hp => (by cases hp), List.nodup_nil, fun _ _ _ hq => (by cases hq)⟩
      ·show W.heap.size ≤ (W.heap.push _).size
       simp
      ·show (W.heap.push _)[k]? = _
       rw [Array.getElem?_push, if_neg (by omega)]
      ·rcases List.mem_singleton.1 hp with rfl
       refine ⟨.inl (Nat.le_refl _), bytesRow s' (Nat.add d s'.size), e', ((bytesRow s' (Nat.add d s'.size)).size, (bytesRow s' (Nat.add d s'.size)).size + 1), ?_, fun j u hu => ?_⟩
       ·show (W.heap.push _)[W.heap.size]? = _
        rw [Array.getElem?_push, if_pos rfl]
       ·have hj : j < s'.data.size := by
         have := (List.getElem?_eq_some_iff.1 hu).1
         simpa [bytesV] using this
        rw [Nat.zero_add, Array.getElem?_toList, bytesRow_at _ _ _ hj]
        have : (bytesV s')[j]? = some (.int .u8 (s'.data[j].toNat : Int)) := by
         simp only [bytesV, List.getElem?_map, Array.getElem?_toList, Array.getElem?_eq_getElem hj, Option.map_some]
        rw [← this]; exact hu
     ·cases h
    ·cases h
   ·cases h
  ·cases h
 ·cases h
inductive Doing where
 | val (v : Value)
 | maybe (b : Bool) (p : Prop) (v : Value)
 | load (t b off : Nat)
 | store (b off : Nat) (v : Value)
 | whole (n b off : Nat) (C : Array Value)
 | app (t : TypeId) (v x : Value)
 | call (f : FuncId) (args : Array Value)
 | make (e : TypeId) (z : Value) (bytes : Nat) (n : Int) (lv cv : Value)
 | bytes (s : ByteArray)
 | peq (neg : Bool) (b1 o1 b2 o2 : Nat)
 | cas (b off : Nat) (old new : Option Addr)
 | gen
def doing (P : Program) (ρ : Operand → Value) (o : Oper) : Doing :=
 match o.op with
 | .move _ | .assign _ | .unOp .. | .extract .. | .pick .. | .fieldAddr .. | .makeFunc .. => match quick P ρ o with
   | some v => .val v
   | none => match symQ P ρ o with
     | some r => .maybe r.1 r.2.1 r.2.2
     | none => .gen
 | .binOp .. => match quick P ρ o with
   | some v => .val v
   | none => match symQ P ρ o with
     | some r => .maybe r.1 r.2.1 r.2.2
     | none => match peqOf P ρ o with
       | some r => .peq r.1 r.2.1 r.2.2.1 r.2.2.2.1 r.2.2.2.2
       | none => .gen
 | .convert .. => match quick P ρ o with
   | some v => .val v
   | none => match bytesOf P ρ o with
     | some r => .bytes r.2
     | none => match symQ P ρ o with
       | some r => .maybe r.1 r.2.1 r.2.2
       | none => .gen
 | .load .. => match loadOf ρ o with
   | some r => .load r.1 r.2.1 r.2.2
   | none => .gen
 | .store .. => match storeOf P ρ o with
   | some r => .store r.1 r.2.1 r.2.2
   | none => match wholeOf P ρ o with
     | some r => .whole r.2.1 r.2.2.1 r.2.2.2.1 r.2.2.2.2
     | none => .gen
 | .indexAddr .. | .index .. | .slice .. => match symQ P ρ o with
   | some r => .maybe r.1 r.2.1 r.2.2
   | none => .gen
 | .call _ => match callOf P ρ o with
   | some r => .call r.1 r.2
   | none => match appOf ρ o with
     | some r => .app r.1 r.2.1 r.2.2
     | none => match mmOf ρ o with
       | some v => .val v
       | none => match lenOf P ρ o with
         | some v => .val v
         | none => match casOf P ρ o with
           | some r => .cas r.1 r.2.1 r.2.2.1 r.2.2.2
           | none => .gen
 | .makeSlice .. => match makeOf P ρ o with
   | some r => .make r.1 r.2.1 r.2.2.1 r.2.2.2.1 r.2.2.2.2.1 r.2.2.2.2.2
   | none => .gen
 | _ => .gen
def DoingS (P : Program) (ρ : Operand → Value) (o : Oper) : Doing → Prop
 | .val v => ∀ W, (execOp ρ o).run P W = .ok (.value v) W
 | .maybe b p v => b = true ∨ p → ∀ W, (execOp ρ o).run P W = .ok (.value v) W
 | .load t b off => loadOf ρ o = some (t, b, off)
 | .store b off v => storeOf P ρ o = some (b, off, v)
 | .whole n b off C => ∃ t, wholeOf P ρ o = some (t, n, b, off, C)
 | .app t v x => appOf ρ o = some (t, v, x)
 | .call f args => ∀ W, (execOp ρ o).run P W = .ok (.enter f args) W
 | .make e z bytes n lv cv => makeOf P ρ o = some (e, z, bytes, n, lv, cv)
 | .bytes s => ∃ e, bytesOf P ρ o = some (e, s)
 | .peq neg b1 o1 b2 o2 => peqOf P ρ o = some (neg, b1, o1, b2, o2)
 | .cas b off old new => casOf P ρ o = some (b, off, old, new)
 | .gen => True
theorem doing_spec {ρ : Operand → Value} (hρ : ∀ g, ρ (.func g) = .func (.func g) #[] #[]) (o : Oper) : DoingS P ρ o (doing P ρ o) := by
 have s : ∀ r, symQ P ρ o = some r → DoingS P ρ o (.maybe r.1 r.2.1 r.2.2) := fun r hr hp W => symQ_run hr hp W
 have q : DoingS P ρ o (match quick P ρ o with
  | some v => .val v
  | none => match symQ P ρ o with
    | some r => .maybe r.1 r.2.1 r.2.2
    | none => .gen) := by
  split
  ·rename_i v hv
   exact fun W => quick_run hv W
  ·split
   ·rename_i r hr
    exact s r hr
   ·trivial
 have s' : DoingS P ρ o (match symQ P ρ o with
   | some r => .maybe r.1 r.2.1 r.2.2
   | none => .gen) := by
  split
  ·rename_i r hr
   exact s r hr
  ·trivial
 unfold doing
 split
 ·exact q
 ·exact q
 ·exact q
 ·exact q
 ·exact q
 ·exact q
 ·exact q
 ·split
  ·rename_i v hv
   exact fun W => quick_run hv W
  ·split
   ·rename_i r hr
    exact s r hr
   ·split
    ·rename_i r hr
     exact hr
    ·trivial
 ·split
  ·rename_i v hv
   exact fun W => quick_run hv W
  ·split
   ·rename_i r hr
    exact ⟨_, hr⟩
   ·exact s'
 ·split
  ·rename_i r hr
   exact hr
  ·trivial
 ·split
  ·rename_i r hr
   exact hr
  ·split
   ·rename_i r hr
    exact ⟨_, hr⟩
   ·trivial
 ·exact s'
 ·exact s'
 ·exact s'
 ·split
  ·rename_i r hr
   exact fun W => callOf_run hρ hr W
  ·split
   ·rename_i r hr
    exact hr
   ·split
    ·rename_i v hv
     exact fun W => mmOf_run hv W
    ·split
     ·rename_i v hv
      exact fun W => lenOf_run hv W
     ·split
      ·rename_i r hr
       exact hr
      ·trivial
 ·split
  ·rename_i r hr
   exact hr
  ·trivial
 ·trivial
end Go.Proofs.YtjohknpmhlildaaDoor.Sy
namespace Go.Proofs.YtjohknpmhlildaaDoor.Sy
open Go Go.RowKit
open Ev (one cell_of frozen_of calm)
variable (P : Program) (S : Ctx)
variable {α : Type}
abbrev CallE (α : Type) := FuncId → Array Value → List Blk → (Value → List Blk → T α) → T α
section
variable {α β : Type}
def askN : Nat → (List Let → T α) → T α
 | 0, k => k []
 | n + 1, k => .ask fun x => askN n fun r => k (x :: r)
def outsT : List β → (β → T α) → T α
 | [], _ => .fail
 | [o], f => f o
 | o :: p :: r, f => .both (f o) (outsT (p :: r) f)
theorem outsT_all {f : β → T α} {K : α → Prop} : ∀ {l : List β}, (outsT l f).all K → ∀ o ∈ l, (f o).all K
 | [], h, o, ho => by cases ho
 | [p], h, o, ho => by
   obtain rfl : o = p := by simpa using ho
   exact h
 | p :: q :: r, h, o, ho => by
   rcases List.mem_cons.1 ho with rfl | ho
   ·exact h.1
   ·exact outsT_all h.2 o ho
def takeAll (ow : Bool) : List (Nat × Cont) → List Blk → (List Blk → List Blk → T α) → T α
 | [], L, k => k L []
 | p :: r, L, k => pickT L p.1 fun b j => match (!ow || b.own) with
   | true => .same (.cont p.2) (.cont (match ow with | true => p.2.useView b.ct | false => p.2.view b.ct)) (forceT (L.eraseIdx j) fun L1 => takeAll ow r L1 fun L2 U => k L2 (b :: U))
   | false => .fail
def ownOf (p : Nat × Cont) : Blk := ⟨p.1, p.2, true⟩
def GotL (L : List Blk) (l : List (Nat × Cont)) : Prop := ∀ p ∈ l, ∃ q ∈ L, q.nm = p.1 ∧ ∀ h, q.ct.sat h → p.2.sat h
def rbT (l : List (Nat × Cont)) (L : List Blk) (k : T α) : T α := .or .force (two (match l with
 | [] => k
 | _ => .fail) (.or (.tail (L.map (·.nm))) fun d => .need (GotL (L.drop d) l) k))
def memBy (c : MemC) (L : List Blk) (outs : List (OutM × β)) (k : β → List Let → List Blk → T α) : T α :=
 takeAll false c.rd L fun L1 U1 => takeAll true c.use L1 fun L2 _ => rbT c.rb (U1 ++ L2) (outsT outs fun o => askN c.m fun ns => .hyp (o.1.hyp ns) (.or .force (two (match o.1.nb ns with
  | [] => forceT ((o.1.nw ns).map ownOf ++ (U1 ++ L2)) fun L3 => k o.2 ns L3
  | _ => .fail) (forceT ((o.1.nw ns).map ownOf ++ ((U1 ++ L2) ++ (o.1.nb ns).map ownOf)) fun L3 => k o.2 ns L3))))
def memU (rd : List (Nat × Cont)) (m : Nat) (rb u1 ub : List (Nat × Cont)) (rest : List Blk) (L : List Blk) (outs : List (OutM × β)) (k : β → List Let → List Blk → T α) : T α :=
 takeAll false rd L fun L1 U1 => takeAll true u1 L1 fun L2 _ => .or (.tail (L2.map (·.nm))) fun d => .need ((L2.drop d).Perm (ub.map ownOf ++ rest))
  (rbT rb (U1 ++ (L2.take d ++ rest)) (outsT outs fun o => askN m fun ns => .hyp (o.1.hyp ns) (forceT ((o.1.nw ns).map ownOf ++ ((U1 ++ (L2.take d ++ rest)) ++ (o.1.nb ns).map ownOf)) fun L3 => k o.2 ns L3)))
end
def keyOf (o : Oper) : Nat := match o.dst with
 | some t => t
 | none => match o.op with
   | .mapUpdate .. => 900000
   | .store .. => 900001
   | _ => 900002
def zerosOf (o : Oper) : List Value := match o.op with
 | .load t _ => zeroCells P t
 | _ => []
def stepO (call : CallE α) (o : Oper) (a : F) (c : F → List Blk → T α) (x : Next) (L : List Blk) : T α := match x with
 | .value v => c (a.put o.dst v) L
 | .skip => c (a.put o.dst undef) L
 | .enter f args => call f args L fun v L' => c (a.put o.dst v) L'
 | _ => .fail
def opBy (k : OpC) (o : Oper) (a : F) (L : List Blk) (c : F → List Blk → T α) : T α := memBy k.mem L k.outs fun v ns L' => c (a.put o.dst ((v ns).getD undef)) L'
def genOp (call : CallE α) (o : Oper) (a : F) (L : List Blk) (c : F → List Blk → T α) : T α := lrun P (execOp a.eval o) (zerosOf P o) L (stepO call o a c)
def lenS (v : Value) : Nat := match v with
 | .slice _ n _ => n
 | _ => 0
def ptrS (v : Value) : Nat := match v with
 | .slice (some ⟨b, _, _⟩) _ _ => b
 | _ => 0
def offS (v : Value) : Nat := match v with
 | .slice (some ⟨_, o, _⟩) _ _ => o
 | _ => 0
def canOpa (o : Oper) : Bool := match o.op with
 | .indexAddr .. => true
 | .call c => match c.callee with
   | .builtin .len => true
   | _ => false
 | _ => false
def opaV (P : Program) (a : F) (o : Oper) (k : Value → T α) : T α := match o.op with
 | .indexAddr t x y => match P.underlying t with
   | some (.slice el) => match P.info? el with
     | some inf => match a.eval y with
       | .int _ i => .need ((∃ n c, a.eval x = .slice (some ⟨ptrS (a.eval x), offS (a.eval x), none⟩) n c) ∧ 0 ≤ i ∧ i < (lenS (a.eval x) : Int)) (k (.pointer (some ⟨ptrS (a.eval x), offS (a.eval x) + i.toNat * inf.size, none⟩)))
       | _ => .fail
     | none => .fail
   | _ => .fail
 | .call c => match c.callee with
   | .builtin .len => match c.args.toList, c.argTypes.toList with
     | [x], [t] => match P.underlying t with
       | some (.slice _) => .need (∃ p n c, a.eval x = .slice p n c) (k (.int .i64 (Int.ofNat (lenS (a.eval x)))))
       | _ => .fail
     | _, _ => .fail
   | _ => .fail
 | _ => .fail
def doOp0 (call : CallE α) (o : Oper) (a : F) (L : List Blk) (c : F → List Blk → T α) : T α :=
 match doing P a.eval o with
 | .val v => c (a.put o.dst v) L
 | .maybe b p v => reqP b p (c (a.put o.dst v) L)
 | .load t b off => loadN P t b off L fun v => c (a.put o.dst v) L
 | .store b off v => pickT L b fun p j => reqP (one v) (one v = true) (putT L p j ⟨b, off, none⟩ v fun L' => c (a.put o.dst undef) L')
 | .whole n b off C => altT (match Nat.beq off 0 with
   | false => .fail
   | true => pickT L b fun p j => match p with
     | ⟨nm, .obj (.cells old ty (lo, hi)), true⟩ => match Nat.beq lo 0 && Nat.beq hi 0 with
       | true => reqP (Nat.beq old.size C.size && (Nat.beq n C.size && C.all (·.oneCell'))) (old.size = C.size ∧ n = C.size ∧ C.all (·.oneCell') = true) (setK L j ⟨nm, .obj (.cells C ty (0, 0)), true⟩ fun L' => c (a.put o.dst undef) L')
       | false => .fail
     | _ => .fail) (genOp P call o a L c)
 | .app t v x => altT (appT P L t v x fun k => opBy k o a L c) (genOp P call o a L c)
 | .call f args => call f args L fun v L' => c (a.put o.dst v) L'
 | .make e z bytes n lv cv => altT (genOp P call o a L c) (.same (.val lv) (.val cv) (reqP (Ex.leQ 0 n && (Nat.ble (n.toNat * bytes) 281474976710656 && Nat.ble n.toNat maxLen)) (0 ≤ n ∧ n.toNat * bytes ≤ 281474976710656 ∧ n.toNat ≤ maxLen)
   (.ask fun x => c (a.put o.dst (.slice (some ⟨x.n, 0, none⟩) n.toNat n.toNat)) (⟨x.n, .row e 1 n.toNat n.toNat (List.replicate n.toNat z), true⟩ :: L))))
 | .bytes s => forceL (bytesV s) fun l => opBy (bytesC s.size l) o a L c
 | .peq neg b1 o1 b2 o2 => peqT L b1 o1 b2 o2 fun r => c (a.put o.dst (.bool (bif neg then !r else r))) L
 | .cas b off old new => casT L b off old new fun r L' => c (a.put o.dst (.bool r)) L'
 | .gen => genOp P call o a L c
def doOp (call : CallE α) (o : Oper) (a : F) (L : List Blk) (c : F → List Blk → T α) : T α := match canOpa o with
 | true => .or .force (two (doOp0 P call o a L c) (opaV P a o fun v => c (a.put o.dst v) L))
 | false => doOp0 P call o a L c
def evOp (fn : FuncId) (call : CallE α) (o : Oper) (a : F) (L : List Blk) (c : F → List Blk → T α) : T α :=
 match S.op fn (keyOf o) with
 | k :: ks => .or (.num ((k :: ks).length + 1)) fun j => match nth (k :: ks) j with
   | some k => .same (.sem (execOp a.eval o)) (.sem (k a L).s) (.need (k a L).ok (opBy (k a L).c o a L c))
   | none => doOp P call o a L c
 | [] => doOp P call o a L c
inductive Guard where
 | free
 | no
 | test (t : Nat) (b want : Bool)
def guardOf (a : F) (ops : Array Oper) (o : Oper) : Guard := match o.guard with
 | none => .free
 | some (j, want) => match nth ops.toList j with
   | none => .no
   | some oj => match oj.dst with
     | none => .no
     | some t => match a.get t with
       | .bool b => .test t b want
       | _ => .no
def guardT (a : F) (ops : Array Oper) (o : Oper) (yes no : F → T α) : T α := match guardOf a ops o with
 | .free => yes a
 | .no => no a
 | .test t b want => match want with
   | true => .cond b (yes (a.put (some t) (.bool true))) (no (a.put (some t) (.bool false)))
   | false => .cond b (no (a.put (some t) (.bool true))) (yes (a.put (some t) (.bool false)))
theorem guardT_spec {a : F} {ops : Array Oper} {o : Oper} {yes no : F → T α} {K : α → Prop} {b : Act} (hf : RelF a b) (h : (guardT a ops o yes no).all K) :
  ∃ a', RelF a' b ∧ ((Region.wanted o (yielded ops b.tmps) = true ∧ (yes a').all K) ∨ (Region.wanted o (yielded ops b.tmps) = false ∧ (no a').all K)) := by
 rw [← hf.yielded]
 unfold guardT at h
 have key : match guardOf a ops o with
   | .free => Region.wanted o (a.yielded ops) = true
   | .no => Region.wanted o (a.yielded ops) = false
   | .test t b want => Region.wanted o (a.yielded ops) = (b == want) ∧ a.get t = .bool b := by
  unfold guardOf Region.wanted F.yielded
  cases hg : o.guard with
  | none => rfl
  | some p =>
    obtain ⟨j, want⟩ := p
    simp only [nth_eq]
    cases hj : ops.toList[j]? with
    | none => rfl
    | some oj =>
      simp only
      cases hd : oj.dst with
      | none => rfl
      | some t =>
        simp only
        cases hv : a.get t with
        | bool b => exact ⟨by cases b <;> cases want <;> rfl, hv⟩
        | _ => rfl
 split at h
 ·rename_i hg
  rw [hg] at key
  exact ⟨a, hf, .inl ⟨key, h⟩⟩
 ·rename_i hg
  rw [hg] at key
  exact ⟨a, hf, .inr ⟨key, h⟩⟩
 ·rename_i t c want hg
  rw [hg] at key
  obtain ⟨k1, k2⟩ := key
  cases want <;> cases c
  ·exact ⟨_, hf.same k2, .inl ⟨k1, h.2 rfl⟩⟩
  ·exact ⟨_, hf.same k2, .inr ⟨k1, h.1 rfl⟩⟩
  ·exact ⟨_, hf.same k2, .inr ⟨k1, h.2 rfl⟩⟩
  ·exact ⟨_, hf.same k2, .inl ⟨k1, h.1 rfl⟩⟩
def pureKind (o : Oper) : Bool := match o.op with
 | .move _ | .assign _ | .convert .. | .unOp .. | .fieldAddr .. | .load .. => true
 | .binOp op _ _ _ _ => match op with
   | .shl | .shr | .quo | .rem => false
   | _ => true
 | .call c => match c.callee with
   | .builtin .len => true
   | .builtin .cap => true
   | .builtin .max => true
   | .builtin .min => true
   | _ => false
 | _ => false
def plainGuard (ops : Array Oper) (j : Nat) : Bool := match nth ops.toList j with
 | some o => match o.guard with
   | none => true
   | some _ => false
 | none => false
def groupOk (ops : Array Oper) (o : Oper) : Bool := match o.guard with
 | none => false
 | some (j, want) => @List.rec Oper (fun _ => Bool) true (fun p _ ih => match p.guard with
   | none => ih
   | some (j', w') => match plainGuard ops j' with
     | false => false
     | true => match Nat.beq j j' with
       | false => ih
       | true => match want, w' with
         | true, true => match pureKind p with
           | true => ih
           | false => false
         | false, false => match pureKind p with
           | true => ih
           | false => false
         | _, _ => false) ops.toList
structure G where
 b : Bool
 want : Bool
 a : F
def hit (b want : Bool) : Bool := match want with
 | true => b
 | false => !b
def selV (c : Bool) (v w : Value) : Value := match c with
 | true => v
 | false => w
structure VB (α : Type) where
 f : F → List Blk → (Value → T α) → T α → T α
def VB.run (b : VB α) : F → List Blk → (Value → T α) → T α → T α := @VB.rec α (fun _ => F → List Blk → (Value → T α) → T α → T α) (fun f => f) b
def twoI (op : BinOp) (x y : Value) : Option Value := match x with
 | .int k a => match y with
   | .int k' b => Ex.twoQ op (.int k a) (.int k' b)
   | _ => none
 | _ => none
def optF (k : Value → T α) (e : T α) (r : Option Value) : T α := match r with
 | some v => k v
 | none => e
def sameF (r : Bool) (op : BinOp) (k : Value → T α) (e : T α) (x y : Value) : T α := match x with
 | .int kx a => match y with
   | .int ky b => .or (.ints a b) (two (.same (.val (.int kx a)) (.val (.int ky b)) (k (.bool r))) (optF k e (Ex.twoQ op (.int kx a) (.int ky b))))
   | _ => e
 | _ => e
def ptrF (g : Nat → Nat → T α) (e : T α) (v : Value) : T α := match v with
 | .pointer (some ⟨b, off, none⟩) => g b off
 | _ => e
def ixF (size : Nat) (k : Value → T α) (e : T α) (v w : Value) : T α := match v with
 | .slice (some ⟨b, off, none⟩) n _ => match w with
   | .int _ i => reqP (Ex.leQ 0 i && Ex.ltQ i (n : Int)) (0 ≤ i ∧ i < (n : Int)) (k (.pointer (some ⟨b, off + i.toNat * size, none⟩)))
   | _ => e
 | _ => e
def idxF (k : Value → T α) (e : T α) (v w : Value) : T α := match v with
 | .string s => match w with
   | .int _ i => reqP (Ex.leQ 0 i && Ex.ltQ i (s.size : Int)) (0 ≤ i ∧ i < (s.size : Int)) (k (.int .u8 (byteQ s i.toNat)))
   | _ => e
 | _ => e
def extF (ix : Nat) (k : Value → T α) (e : T α) (v : Value) : T α := match v with
 | .tuple vs => optF k e (nth vs.toList ix)
 | _ => e
def lenF (str : Bool) (k : Value → T α) (e : T α) (v : Value) : T α := match v with
 | .string s => match str with
   | true => k (.int .i64 (Int.ofNat s.size))
   | false => e
 | .slice _ n _ => match str with
   | true => e
   | false => k (.int .i64 (Int.ofNat n))
 | _ => e
def fieldOffP (s : TypeId) (f : Nat) : Option Nat := match P.underlying s with
 | some (.struct fs) => match fs[f]? with
   | some fl => match sizeP P fl.type with
     | some n => match Nat.beq n 0 with
       | true => none
       | false => some fl.offset
     | none => none
   | none => none
 | _ => none
def elemSizeP (t : TypeId) : Option Nat := match P.underlying t with
 | some (.slice el) => match P.info? el with
   | some inf => some inf.size
   | none => none
 | _ => none
def lenP (t : TypeId) : Option Bool := match P.underlying t with
 | some .string => some true
 | some (.slice _) => some false
 | _ => none
def elseV : VB α := ⟨fun _ _ _ e => e⟩
def valB (o : Oper) : VB α := match o.op with
 | .move x => ⟨fun a _ k _ => k (a.eval x)⟩
 | .assign x => ⟨fun a _ k _ => k (a.eval x)⟩
 | .binOp op _ x y _ => match isShift op with
   | true => elseV
   | false => match op with
     | .eql => ⟨fun a _ k e => sameF true .eql k e (a.eval x) (a.eval y)⟩
     | .neq => ⟨fun a _ k e => sameF false .neq k e (a.eval x) (a.eval y)⟩
     | op => ⟨fun a _ k e => optF k e (twoI op (a.eval x) (a.eval y))⟩
 | .load t x => ⟨fun a L k e => ptrF (fun b off => loadN P t b off L k) e (a.eval x)⟩
 | .fieldAddr s x f => match fieldOffP P s f with
   | some foff => ⟨fun a _ k e => ptrF (fun b off => k (.pointer (some ⟨b, Nat.add off foff, none⟩))) e (a.eval x)⟩
   | none => elseV
 | .indexAddr t x y => match elemSizeP P t with
   | some size => ⟨fun a _ k e => .or .force (two (ixF size k e (a.eval x) (a.eval y)) e)⟩
   | none => elseV
 | .index t x y => match lenP P t with
   | some true => ⟨fun a _ k e => idxF k e (a.eval x) (a.eval y)⟩
   | _ => elseV
 | .extract x ix => ⟨fun a _ k e => extF ix k e (a.eval x)⟩
 | .call c => match c.callee with
   | .builtin .len => match c.args.toList, c.argTypes.toList with
     | [x], [t] => match lenP P t with
       | some str => ⟨fun a _ k e => .or .force (two (lenF str k e (a.eval x)) e)⟩
       | none => elseV
     | _, _ => elseV
   | _ => elseV
 | _ => elseV
def Tells (P : Program) (L : List Blk) (k : Value → T α) (K : α → Prop) (d : Doing) : Prop :=
 (∃ v, d = .val v ∧ (k v).all K) ∨ (∃ t b off, d = .load t b off ∧ (loadN P t b off L k).all K) ∨ (∃ b p v, d = .maybe b p v ∧ (reqP b p (k v)).all K)
variable {P} in
theorem valB_spec {o : Oper} {a : F} {L : List Blk} {k : Value → T α} {e : T α} {K : α → Prop} (h : ((valB P o : VB α).run a L k e).all K) : e.all K ∨ Tells P L k K (doing P a.eval o) := by
 have vl : ∀ v, doing P a.eval o = .val v → (k v).all K → e.all K ∨ Tells P L k K (doing P a.eval o) := fun v h1 h2 => .inr (.inl ⟨v, h1, h2⟩)
 unfold valB at h
 split at h
 ·rename_i x ho
  exact vl _ (by unfold doing quick; simp only [ho]) h
 ·rename_i x ho
  exact vl _ (by unfold doing quick; simp only [ho]) h
 ·rename_i op t x y u ho
  split at h
  ·exact .inl h
  ·rename_i hs
   have key : ∀ (kx ky : IntKind) (m m' : Int) (v : Value), a.eval x = .int kx m → a.eval y = .int ky m' → Ex.twoQ op (.int kx m) (.int ky m') = some v → doing P a.eval o = .val v := fun kx ky m m' v h1 h2 hv => by
    unfold doing quick
    simp only [ho, hs, h1, h2, hv]
   have opt : ∀ {r : Option Value}, (∀ v, r = some v → doing P a.eval o = .val v) → (optF k e r).all K → e.all K ∨ Tells P L k K (doing P a.eval o) := fun {r} hr h => by
    unfold optF at h
    split at h
    ·exact vl _ (hr _ rfl) h
    ·exact .inl h
   have same : ∀ r : Bool, (∀ kx m, Ex.twoQ op (.int kx m) (.int kx m) = some (.bool r)) → (sameF r op k e (a.eval x) (a.eval y)).all K → e.all K ∨ Tells P L k K (doing P a.eval o) := fun r hr h => by
    unfold sameF at h
    split at h
    ·rename_i kx m h1
     split at h
     ·rename_i ky m' h2
      rcases two_spec h with hx | hx
      ·obtain ⟨h3, hx⟩ := hx
       have h3 := tok_val h3
       injection h3 with h4 h5
       subst h4 h5
       exact vl _ (key _ _ _ _ _ h1 h2 (hr _ _)) hx
      ·exact opt (fun v hv => key _ _ _ _ _ h1 h2 hv) hx
     ·exact .inl h
    ·exact .inl h
   split at h
   ·exact same true (fun kx m => by simp [Ex.twoQ, Ex.intQ, Ex.binQ, Ex.eqQ_eq]) h
   ·exact same false (fun kx m => by simp [Ex.twoQ, Ex.intQ, Ex.binQ, Ex.eqQ_eq]) h
   ·refine opt (fun v hv => ?_) h
    unfold twoI at hv
    split at hv
    ·rename_i kx m h1
     split at hv
     ·rename_i ky m' h2
      exact key _ _ _ _ _ h1 h2 hv
     ·cases hv
    ·cases hv
 ·rename_i t x ho
  change (ptrF (fun b off => loadN P t b off L k) e (a.eval x)).all K at h
  unfold ptrF at h
  split at h
  ·rename_i b off hv
   refine .inr (.inr (.inl ⟨t, b, off, ?_, h⟩))
   unfold doing loadOf
   simp only [ho, hv]
  ·exact .inl h
 ·rename_i s x f ho
  split at h
  ·rename_i foff hf
   change (ptrF (fun b off => k (.pointer (some ⟨b, Nat.add off foff, none⟩))) e (a.eval x)).all K at h
   unfold ptrF at h
   split at h
   ·rename_i b off hv
    refine vl _ ?_ h
    unfold doing quick
    simp only [ho, hv]
    have : fieldQ P s f b off = some (.pointer (some ⟨b, Nat.add off foff, none⟩)) := by
     unfold fieldOffP at hf
     unfold fieldQ
     split at hf
     ·rename_i fs hu
      try simp only [hu]
      split at hf
      ·rename_i fl hfl
       try simp only [hfl]
       split at hf
       ·rename_i n hn
        try simp only [hn]
        split at hf
        ·cases hf
        ·rename_i hz
         injection hf with hf
         simp only [hz, hf]
       ·cases hf
      ·cases hf
     ·cases hf
    simp only [this]
   ·exact .inl h
  ·exact .inl h
 ·rename_i t x y ho
  split at h
  ·rename_i size hf
   rcases (two_spec h).symm with h | h
   ·exact .inl h
   unfold ixF at h
   split at h
   ·rename_i b off n cc hv
    split at h
    ·rename_i kk j hw
     refine .inr (.inr (.inr ⟨_, _, _, ?_, h⟩))
     unfold elemSizeP at hf
     unfold doing symQ
     simp only [ho, hv, hw]
     split at hf
     ·rename_i el hu
      try simp only [hu]
      split at hf
      ·rename_i inf hi
       injection hf with hf
       simp only [hi, hf]
      ·cases hf
     ·cases hf
    ·exact .inl h
   ·exact .inl h
  ·exact .inl h
 ·rename_i t x y ho
  split at h
  ·rename_i hf
   change (idxF k e (a.eval x) (a.eval y)).all K at h
   unfold idxF at h
   split at h
   ·rename_i s hv
    split at h
    ·rename_i kk j hw
     refine .inr (.inr (.inr ⟨_, _, _, ?_, h⟩))
     unfold lenP at hf
     unfold doing symQ
     simp only [ho, hv, hw]
     split at hf
     ·rename_i hu
      try simp only [hu]
     ·cases hf
     ·cases hf
    ·exact .inl h
   ·exact .inl h
  ·exact .inl h
 ·rename_i x ix ho
  change (extF ix k e (a.eval x)).all K at h
  unfold extF at h
  split at h
  ·rename_i vs hv
   unfold optF at h
   split at h
   ·rename_i v hn
    refine vl v ?_ h
    unfold doing quick
    simp only [ho, hv, hn]
   ·exact .inl h
  ·exact .inl h
 ·rename_i c ho
  split at h
  ·rename_i hc
   split at h
   ·rename_i x t ha ht
    split at h
    ·rename_i str hl
     rcases (two_spec h).symm with h | h
     ·exact .inl h
     have key : ∀ v, lenOf P a.eval o = some v → doing P a.eval o = .val v := fun v hv => by
      have h1 : callOf P a.eval o = none := by unfold callOf; simp only [ho, hc]
      have h2 : appOf a.eval o = none := by unfold appOf; simp only [ho, hc]
      have h3 : mmOf a.eval o = none := by unfold mmOf; simp only [ho, hc]
      unfold doing
      simp only [ho, h1, h2, h3, hv]
     unfold lenP at hl
     unfold lenF at h
     split at h
     ·rename_i s hv
      split at h
      ·refine vl _ (key _ ?_) h
       unfold lenOf
       simp only [ho, hc, ha, ht, hv]
       split at hl
       ·rename_i hu
        try simp only [hu]
       ·cases hl
       ·cases hl
      ·exact .inl h
     ·rename_i ad n cc hv
      split at h
      ·exact .inl h
      ·refine vl _ (key _ ?_) h
       unfold lenOf
       simp only [ho, hc, ha, ht, hv]
       split at hl
       ·cases hl
       ·rename_i hu
        try simp only [hu]
       ·cases hl
     ·exact .inl h
    ·exact .inl h
   ·exact .inl h
  ·exact .inl h
 ·exact .inl h
def heldV0 (a : F) (L0 : List Blk) (o : Oper) (k : Value → T α) : T α := match doing P a.eval o with
 | .val v => k v
 | .load t b off => loadN P t b off L0 k
 | .maybe b p v => reqP b p (k v)
 | .gen => lread P (execOp a.eval o) (zerosOf P o) L0 fun x => match x with
   | .value v => k v
   | _ => .fail
 | _ => .fail
def heldV (a : F) (L0 : List Blk) (o : Oper) (k : Value → T α) : T α := match canOpa o with
 | true => .or .force (two (heldV0 P a L0 o k) (opaV P a o k))
 | false => heldV0 P a L0 o k
def heldG (ops : Array Oper) (L0 : List Blk) (g : Option G) (a : F) (o : Oper) (k : Option G → F → T α) : T α :=
 match guardOf a ops o with
 | .free => match g with
   | none => (valB P o).run a L0 (fun v => k none (a.put o.dst v)) (heldV P a L0 o fun v => k none (a.put o.dst v))
   | some g => match o.op with
     | .pick c x y => match a.eval c with
       | .bool b => .same (.val (.bool b)) (.val (.bool g.b)) (match mergeV b (match g.want with | true => g.a.eval x | false => a.eval x) (match g.want with | true => a.eval y | false => g.a.eval y) with
         | some v => k none (a.put o.dst v)
         | none => .fail)
       | _ => .fail
     | _ => heldV P a L0 o fun v => k (some ⟨g.b, g.want, g.a.put o.dst v⟩) (a.put o.dst v)
 | .no => k none (a.put o.dst undef)
 | .test t b want => match g with
   | none => heldV P (a.put (some t) (.bool want)) L0 o fun v => k (some ⟨b, want, (a.put (some t) (.bool want)).put o.dst v⟩) (a.put o.dst (selV (hit b want) v undef))
   | some g => .same (.val (.bool b)) (.val (.bool g.b)) (.same (.val (.bool want)) (.val (.bool g.want)) (heldV P g.a L0 o fun v => k (some ⟨g.b, g.want, g.a.put o.dst v⟩) (a.put o.dst (selV (hit b want) v undef))))
def Inv (g : Option G) (b : Act) : Prop := ∀ x, g = some x → x.b = x.want → RelF x.a b
theorem Inv.none (b : Act) : Inv Option.none b := fun _ h => by cases h
theorem guardOf_key {a : F} {ops : Array Oper} {o : Oper} {b : Act} (hf : RelF a b) : match guardOf a ops o with
   | .free => Region.wanted o (yielded ops b.tmps) = true
   | .no => Region.wanted o (yielded ops b.tmps) = false
   | .test t c want => Region.wanted o (yielded ops b.tmps) = (c == want) ∧ a.get t = .bool c := by
 rw [← hf.yielded]
 unfold guardOf Region.wanted F.yielded
 cases hg : o.guard with
 | none => rfl
 | some p =>
   obtain ⟨j, want⟩ := p
   simp only [nth_eq]
   cases hj : ops.toList[j]? with
   | none => rfl
   | some oj =>
     simp only
     cases hd : oj.dst with
     | none => rfl
     | some t =>
       simp only
       cases hv : a.get t with
       | bool b => exact ⟨by cases b <;> cases want <;> rfl, hv⟩
       | _ => rfl
def evAt (fn : FuncId) (call : CallE α) (ops : Array Oper) (i : Nat) (a : F) (L : List Blk) (c : F → List Blk → T α) : T α :=
 match nth ops.toList i with
 | none => c a L
 | some o => guardT a ops o (fun a => evOp P S fn call o a L c) (fun a => c (a.put o.dst undef) L)
def evAtG (fn : FuncId) (call : CallE α) (ops : Array Oper) (i : Nat) (g : Option G) (a : F) (L : List Blk) (c : Option G → F → List Blk → T α) : T α :=
 match nth ops.toList i with
 | none => evAt P S fn call ops i a L (c none)
 | some o => match guardOf a ops o with
   | .test _ b _ => match groupOk ops o with
     | true => match g with
       | none => litT b (evAt P S fn call ops i a L (c none)) (heldG P ops L g a o fun g' a' => c g' a' L)
       | some _ => heldG P ops L g a o fun g' a' => c g' a' L
     | false => evAt P S fn call ops i a L (c none)
   | .free => match g, o.op with
     | some _, .pick .. => heldG P ops L g a o fun g' a' => c g' a' L
     | _, _ => evAt P S fn call ops i a L (c none)
   | .no => evAt P S fn call ops i a L (c none)
def evOps (fn : FuncId) (call : CallE α) (ops : Array Oper) (c : F → List Blk → T α) (l : List Nat) : Option G → F → List Blk → T α :=
 @List.rec Nat (fun _ => Option G → F → List Blk → T α) (fun _ => c) (fun i _ ih g a L => evAtG P S fn call ops i g a L ih) l
def listedOf (n m : Nat) : Array Bool := ((List.range n).map fun j => m.testBit j).toArray
theorem listedOf_get (n m j : Nat) : (listedOf n m)[j]? = if j < n then some (m.testBit j) else none := by
 simp only [listedOf, List.getElem?_toArray, List.getElem?_map]
 split
 ·rename_i h; rw [List.getElem?_range h]; rfl
 ·rename_i h; rw [List.getElem?_eq_none (by simpa using h)]; rfl
theorem listedOf_getD (n m j : Nat) (d : Bool) : (listedOf n m).getD j d = if j < n then m.testBit j else d := by
 rw [Array.getD_eq_getD_getElem?, listedOf_get]
 split <;> rfl
theorem testBit_or_shift (m i j : Nat) : (m ||| 1 <<< i).testBit j = (m.testBit j || decide (j = i)) := by
 rw [Nat.testBit_or, Nat.one_shiftLeft, Nat.testBit_two_pow]
 by_cases h : i = j
 ·subst h; simp
 ·simp [h, Ne.symm h]
theorem listedOf_set (n m i : Nat) : (listedOf n m).setIfInBounds i true = listedOf n (m ||| 1 <<< i) := by
 apply Array.ext_getElem?
 intro j
 rw [Array.getElem?_setIfInBounds, listedOf_get, listedOf_get]
 have hs : (listedOf n m).size = n := by simp [listedOf]
 rw [hs, testBit_or_shift]
 by_cases h : i = j
 ·subst h
  by_cases hn : i < n <;> simp [hn]
 ·simp [h, Ne.symm h]
theorem listedOf_zero (n : Nat) : Array.replicate n false = listedOf n 0 := by
 apply Array.ext_getElem?
 intro j
 rw [listedOf_get, Array.getElem?_replicate]
 split <;> simp
def orAll {α : Type} (f : α → Option Nat) : List α → Nat
 | [] => 0
 | x :: r => match f x with
   | some k => orAll f r ||| 1 <<< k
   | none => orAll f r
theorem orAll_testBit {α : Type} {f : α → Option Nat} (k : Nat) : ∀ l : List α, (orAll f l).testBit k = true ↔ ∃ x ∈ l, f x = some k
 | [] => by simp [orAll]
 | x :: r => by
   simp only [orAll]
   split
   ·rename_i j hj
    rw [testBit_or_shift]
    simp only [Bool.or_eq_true, decide_eq_true_eq, orAll_testBit k r, List.mem_cons, exists_eq_or_imp, hj, Option.some.injEq]
    exact ⟨fun h => h.elim .inr fun h => .inl h.symm, fun h => h.elim (fun h => .inr h.symm) .inl⟩
   ·rename_i hj
    simp only [orAll_testBit k r, List.mem_cons, exists_eq_or_imp, hj]
    exact ⟨.inr, fun h => h.elim (fun h => by cases h) id⟩
def subM (w m : Nat) : Bool := Nat.beq (Nat.land w m) w
theorem subM_spec {w m : Nat} : subM w m = true ↔ ∀ k, w.testBit k = true → m.testBit k = true := by
 unfold subM
 rw [Nat.beq_eq]
 constructor
 ·intro h k hk
  have h1 := congrArg (fun x => x.testBit k) h
  have h2 : (w &&& m).testBit k = w.testBit k := h1
  rw [Nat.testBit_and, hk, Bool.true_and] at h2
  exact h2
 ·intro h
  refine Nat.eq_of_testBit_eq fun k => ?_
  show (w &&& m).testBit k = w.testBit k
  rw [Nat.testBit_and]
  cases hk : w.testBit k with
  | false => rfl
  | true => rw [h k hk]; rfl
theorem bit_of (m i : Nat) : Nat.beq (Nat.mod (Nat.shiftRight m i) 2) 0 = !m.testBit i := by
 have h : Nat.mod (Nat.shiftRight m i) 2 = (m >>> i) % 2 := rfl
 rw [h, Nat.testBit, Nat.one_and_eq_mod_two]
 rcases Nat.mod_two_eq_zero_or_one (m >>> i) with h | h <;> rw [h] <;> rfl
def tb (m i : Nat) : Bool := match Nat.beq (Nat.mod (Nat.shiftRight m i) 2) 0 with
 | true => false
 | false => true
theorem tb_eq (m i : Nat) : tb m i = m.testBit i := by
 unfold tb
 rw [bit_of]
 cases m.testBit i <;> rfl
def ixL (p : Nat → Oper → Bool) : List Oper → Nat → List Nat
 | [], _ => []
 | o :: r, j => match p j o with
   | true => j :: ixL p r (Nat.succ j)
   | false => ixL p r (Nat.succ j)
theorem ixL_cons (p : Nat → Oper → Bool) (o : Oper) (r : List Oper) (j : Nat) : ixL p (o :: r) j = match p j o with
  | true => j :: ixL p r (Nat.succ j)
  | false => ixL p r (Nat.succ j) := rfl
theorem ixL_eq (p : Nat → Oper → Bool) : ∀ (l : List Oper) (j : Nat), ixL p l j = (List.range' j l.length).filter fun i => match l[i - j]? with
  | some o => p i o
  | none => false
 | [], _ => rfl
 | o :: r, j => by
   have ih := ixL_eq p r (j + 1)
   have e : ((List.range' (j + 1) r.length).filter fun i => match (o :: r)[i - j]? with
     | some o => p i o
     | none => false) = (List.range' (j + 1) r.length).filter fun i => match r[i - (j + 1)]? with
     | some o => p i o
     | none => false := List.filter_congr fun i hi => by
    have hi := List.mem_range'_1.1 hi
    have : i - j = (i - (j + 1)) + 1 := by omega
    rw [this, List.getElem?_cons_succ]
   rw [List.length_cons, List.range'_succ, List.filter_cons, e, ← ih]
   simp only [Nat.sub_self, List.getElem?_cons_zero]
   rw [ixL_cons]
   cases p j o <;> rfl
def orL (p : Nat → Oper → Bool) : List Oper → Nat → Nat
 | [], _ => 0
 | o :: r, j => match p j o with
   | true => Nat.lor (orL p r (Nat.succ j)) (Nat.shiftLeft 1 j)
   | false => orL p r (Nat.succ j)
theorem orL_cons (p : Nat → Oper → Bool) (o : Oper) (r : List Oper) (j : Nat) : orL p (o :: r) j = match p j o with
  | true => Nat.lor (orL p r (Nat.succ j)) (Nat.shiftLeft 1 j)
  | false => orL p r (Nat.succ j) := rfl
theorem orL_bit (p : Nat → Oper → Bool) : ∀ (l : List Oper) (j k : Nat), (orL p l j).testBit k = true ↔ j ≤ k ∧ ∃ o, l[k - j]? = some o ∧ p k o = true
 | [], j, k => by simp [orL]
 | o :: r, j, k => by
   have ih := orL_bit p r (j + 1) k
   have key : (j ≤ k ∧ ∃ o', (o :: r)[k - j]? = some o' ∧ p k o' = true) ↔ (k = j ∧ p j o = true) ∨ (orL p r (j + 1)).testBit k = true := by
    rw [ih]
    rcases Nat.lt_trichotomy k j with h | h | h
    ·constructor
     ·rintro ⟨h1, -⟩; omega
     ·rintro (⟨h1, -⟩ | ⟨h1, -⟩) <;> omega
    ·subst h
     constructor
     ·rintro ⟨-, o', h1, h2⟩
      simp only [Nat.sub_self, List.getElem?_cons_zero, Option.some.injEq] at h1
      subst h1
      exact .inl ⟨rfl, h2⟩
     ·rintro (⟨-, h2⟩ | ⟨h1, -⟩)
      ·exact ⟨Nat.le_refl _, o, by simp, h2⟩
      ·omega
    ·have e : k - j = (k - (j + 1)) + 1 := by omega
     rw [e, List.getElem?_cons_succ]
     constructor
     ·rintro ⟨-, h2⟩
      exact .inr ⟨by omega, h2⟩
     ·rintro (⟨h1, -⟩ | ⟨-, h2⟩)
      ·omega
      ·exact ⟨by omega, h2⟩
   rw [key, orL_cons]
   have hs : ∀ x : Nat, (Nat.lor x (Nat.shiftLeft 1 j)).testBit k = (x.testBit k || decide (k = j)) := fun x => testBit_or_shift x j k
   cases hp : p j o with
   | true =>
     simp only [hs, Bool.or_eq_true, decide_eq_true_eq, and_true]
     exact ⟨fun h => h.symm, fun h => h.symm⟩
   | false =>
     simp
def waitO (o : Oper) : Nat := orAll (fun e : Edge => match Region.binds .any e with
  | true => some e.on
  | false => none) o.after.toList
def waitM (ops : Array Oper) (i : Nat) : Nat := match ops[i]? with
 | some o => orAll (fun e : Edge => match Region.binds .any e with
   | true => some e.on
   | false => none) o.after.toList
 | none => 1 <<< ops.size
theorem waitM_eq {ops : Array Oper} {i : Nat} {o : Oper} (h : ops[i]? = some o) : waitM ops i = waitO o := by
 unfold waitM
 rw [h]
 rfl
def readyS (ops : Array Oper) (m : Nat) : List Nat := (List.range ops.size).filter fun i => !m.testBit i && (Nat.blt (waitM ops i) (1 <<< ops.size) && subM (waitM ops i) m)
def readyL (z m : Nat) (l : List Oper) : Nat → List Nat := @List.rec Oper (fun _ => Nat → List Nat) (fun _ => []) (fun o _ ih j => match Nat.beq (Nat.mod (Nat.shiftRight m j) 2) 0 with
 | false => ih (Nat.succ j)
 | true => match Nat.beq (Nat.land (waitO o) m) (waitO o) with
   | false => ih (Nat.succ j)
   | true => match Nat.ble (Nat.succ (waitO o)) z with
     | true => j :: ih (Nat.succ j)
     | false => ih (Nat.succ j)) l
def readyM (ops : Array Oper) (m : Nat) : List Nat := readyL (Nat.shiftLeft 1 ops.size) m ops.toList 0
theorem readyL_eq (z m : Nat) : ∀ (l : List Oper) (j : Nat), readyL z m l j = ixL (fun i o => !m.testBit i && (Nat.blt (waitO o) z && subM (waitO o) m)) l j
 | [], _ => rfl
 | o :: r, j => by
   have ih := readyL_eq z m r (Nat.succ j)
   change (match Nat.beq (Nat.mod (Nat.shiftRight m j) 2) 0 with
    | false => readyL z m r (Nat.succ j)
    | true => match Nat.beq (Nat.land (waitO o) m) (waitO o) with
      | false => readyL z m r (Nat.succ j)
      | true => match Nat.ble (Nat.succ (waitO o)) z with
        | true => j :: readyL z m r (Nat.succ j)
        | false => readyL z m r (Nat.succ j)) = _
   rw [bit_of, ih, ixL_cons]
   have e1 : subM (waitO o) m = Nat.beq (Nat.land (waitO o) m) (waitO o) := rfl
   have e2 : Nat.blt (waitO o) z = Nat.ble (Nat.succ (waitO o)) z := rfl
   simp only [e1, e2]
   cases m.testBit j <;> cases Nat.beq (Nat.land (waitO o) m) (waitO o) <;> cases Nat.ble (Nat.succ (waitO o)) z <;> rfl
theorem readyM_slow (ops : Array Oper) (m : Nat) : readyM ops m = readyS ops m := by
 unfold readyM readyS
 rw [readyL_eq, ixL_eq, Array.length_toList, ← List.range_eq_range']
 refine List.filter_congr fun i hi => ?_
 have hi : i < ops.size := List.mem_range.1 hi
 have ho : ops[i]? = some ops[i] := by simp [hi]
 rw [Nat.sub_zero, Array.getElem?_toList, ho, waitM_eq ho]
 rfl
theorem readyM_eq (ops : Array Oper) (m : Nat) : Region.ready .any ops (listedOf ops.size m) = readyM ops m := by
 rw [readyM_slow]
 unfold Region.ready readyS
 refine List.filter_congr fun i hi => ?_
 have hi : i < ops.size := List.mem_range.1 hi
 rw [listedOf_getD, if_pos hi]
 congr 1
 have ho : ops[i]? = some ops[i] := by simp [hi]
 rw [ho, Option.map_some, Option.getD_some]
 have hbit : ∀ k, (waitM ops i).testBit k = true ↔ ∃ e ∈ ops[i].after.toList, Region.binds .any e = true ∧ e.on = k := fun k => by
  unfold waitM
  rw [ho]
  simp only [orAll_testBit]
  refine exists_congr fun e => and_congr_right fun _ => ?_
  split
  ·rename_i h; simp [h]
  ·rename_i h; simp [h]
 rw [Bool.eq_iff_iff, Array.all_eq_true_iff_forall_mem, Bool.and_eq_true, subM_spec, Nat.blt_eq]
 constructor
 ·intro h
  refine ⟨?_, fun k hk => ?_⟩
  ·rw [Nat.one_shiftLeft]
   refine Nat.lt_pow_two_of_testBit _ fun k hk => ?_
   cases hb : (waitM ops i).testBit k with
   | false => rfl
   | true =>
     obtain ⟨e, he, hbd, hon⟩ := (hbit k).1 hb
     have h1 := h e (by simpa using he)
     rw [hbd, hon, listedOf_getD, if_neg (by omega)] at h1
     cases h1
  ·obtain ⟨e, he, hbd, hon⟩ := (hbit k).1 hk
   have h1 := h e (by simpa using he)
   rw [hbd, hon, listedOf_getD] at h1
   split at h1
   ·simpa using h1
   ·cases h1
 ·rintro ⟨hlt, h⟩ e he
  cases hbd : Region.binds .any e with
  | false => rfl
  | true =>
    have hk := (hbit e.on).2 ⟨e, by simpa using he, hbd, rfl⟩
    have hn : e.on < ops.size := by
     rcases Nat.lt_or_ge e.on ops.size with h' | h'
     ·exact h'
     ·have h2 := Nat.ge_two_pow_of_testBit hk
      rw [Nat.one_shiftLeft] at hlt
      have h3 := Nat.pow_le_pow_right (n := 2) (by omega) h'
      omega
    rw [listedOf_getD, if_pos hn, h _ hk]
    rfl
def lookM (ops : Array Oper) (i : Nat) : Nat := match ops[i]? with
 | some o => orAll some (o.looksAt ops)
 | none => 0
def dstM (ops : Array Oper) (i : Nat) : Nat := match ops[i]? with
 | some o => match o.dst with
   | some d => 1 <<< d
   | none => 0
 | none => 0
def apartM (ops : Array Oper) (i j : Nat) : Bool := Nat.beq (Nat.lor (Nat.land (dstM ops i) (Nat.lor (lookM ops j) (dstM ops j))) (Nat.land (dstM ops j) (lookM ops i))) 0
theorem testBit_one_shift (d k : Nat) : (1 <<< d).testBit k = decide (d = k) := by rw [Nat.one_shiftLeft, Nat.testBit_two_pow]
theorem apartM_spec {ops : Array Oper} {i j : Nat} {x y : Oper} (hx : ops[i]? = some x) (hy : ops[j]? = some y) (h : apartM ops i j = true) : x.apart ops y = true := by
 unfold apartM at h
 have h := Nat.eq_of_beq_eq_true h
 have hbit : ∀ k, ¬ ((dstM ops i).testBit k = true ∧ ((lookM ops j).testBit k = true ∨ (dstM ops j).testBit k = true)) ∧ ¬ ((dstM ops j).testBit k = true ∧ (lookM ops i).testBit k = true) := fun k => by
  have h1 := congrArg (fun z => z.testBit k) h
  have h2 : ((dstM ops i &&& (lookM ops j ||| dstM ops j)) ||| (dstM ops j &&& lookM ops i)).testBit k = false := by
   have := h1
   simp only [Nat.zero_testBit] at this
   exact this
  simp only [Nat.testBit_or, Nat.testBit_and, Bool.or_eq_false_iff, Bool.and_eq_false_iff] at h2
  obtain ⟨h3, h4⟩ := h2
  refine ⟨fun ⟨a, b⟩ => ?_, fun ⟨a, b⟩ => ?_⟩
  ·rcases h3 with h3 | h3
   ·rw [h3] at a; cases a
   ·rcases b with b | b
    ·rw [h3.1] at b; cases b
    ·rw [h3.2] at b; cases b
  ·rcases h4 with h4 | h4
   ·rw [h4] at a; cases a
   ·rw [h4] at b; cases b
 have look : ∀ {n : Nat} {o : Oper} {d : Nat}, ops[n]? = some o → d ∈ o.looksAt ops → (lookM ops n).testBit d = true := fun ho hd => by
  unfold lookM
  rw [ho]
  exact (orAll_testBit _ _).2 ⟨_, hd, rfl⟩
 have dst : ∀ {n : Nat} {o : Oper} {d : Nat}, ops[n]? = some o → o.dst = some d → (dstM ops n).testBit d = true := fun ho hd => by
  unfold dstM
  rw [ho]
  simp only [hd, testBit_one_shift, decide_true]
 unfold Oper.apart
 rw [Bool.and_eq_true]
 constructor
 ·cases hd : x.dst with
  | none => rfl
  | some d =>
    simp only [Bool.and_eq_true, Bool.not_eq_true', bne_iff_ne, ne_eq]
    refine ⟨?_, fun he => (hbit d).1 ⟨dst hx hd, .inr (dst hy he)⟩⟩
    cases hc : (y.looksAt ops).contains d with
    | false => rfl
    | true => exact absurd ⟨dst hx hd, .inl (look hy (by simpa using hc))⟩ (hbit d).1
 ·cases hd : y.dst with
  | none => rfl
  | some d =>
    simp only [Bool.not_eq_true']
    cases hc : (x.looksAt ops).contains d with
    | false => rfl
    | true => exact absurd ⟨dst hy hd, look hx (by simpa using hc)⟩ (hbit d).2
def confS (ops : Array Oper) (i : Nat) : Nat := orAll (fun j => match Nat.beq j i || ((waitM ops j).testBit i || apartM ops i j) with
  | true => none
  | false => some j) (List.range ops.size)
def lookO (ops : Array Oper) (o : Oper) : Nat := orAll some (o.looksAt ops)
def dstO (o : Oper) : Nat := match o.dst with
 | some d => 1 <<< d
 | none => 0
def confL (ops : Array Oper) (di li i : Nat) (l : List Oper) : Nat → Nat := @List.rec Oper (fun _ => Nat → Nat) (fun _ => 0) (fun o _ ih j => match Nat.beq j i with
 | true => ih (Nat.succ j)
 | false => match Nat.beq (Nat.mod (Nat.shiftRight (waitO o) i) 2) 0 with
   | false => ih (Nat.succ j)
   | true => match Nat.beq (Nat.lor (Nat.land di (Nat.lor (lookO ops o) (dstO o))) (Nat.land (dstO o) li)) 0 with
     | true => ih (Nat.succ j)
     | false => Nat.lor (ih (Nat.succ j)) (Nat.shiftLeft 1 j)) l
def confM (ops : Array Oper) (i : Nat) : Nat := confL ops (dstM ops i) (lookM ops i) i ops.toList 0
def confP (ops : Array Oper) (di li i : Nat) (j : Nat) (o : Oper) : Bool := !(Nat.beq j i || ((waitO o).testBit i || Nat.beq (Nat.lor (Nat.land di (Nat.lor (lookO ops o) (dstO o))) (Nat.land (dstO o) li)) 0))
theorem confL_eq (ops : Array Oper) (di li i : Nat) : ∀ (l : List Oper) (j : Nat), confL ops di li i l j = orL (confP ops di li i) l j
 | [], _ => rfl
 | o :: r, j => by
   have ih := confL_eq ops di li i r (Nat.succ j)
   change (match Nat.beq j i with
    | true => confL ops di li i r (Nat.succ j)
    | false => match Nat.beq (Nat.mod (Nat.shiftRight (waitO o) i) 2) 0 with
      | false => confL ops di li i r (Nat.succ j)
      | true => match Nat.beq (Nat.lor (Nat.land di (Nat.lor (lookO ops o) (dstO o))) (Nat.land (dstO o) li)) 0 with
        | true => confL ops di li i r (Nat.succ j)
        | false => Nat.lor (confL ops di li i r (Nat.succ j)) (Nat.shiftLeft 1 j)) = _
   rw [bit_of, ih, orL_cons]
   unfold confP
   cases Nat.beq j i <;> cases (waitO o).testBit i <;> cases Nat.beq (Nat.lor (Nat.land di (Nat.lor (lookO ops o) (dstO o))) (Nat.land (dstO o) li)) 0 <;> rfl
theorem confM_slow (ops : Array Oper) (i : Nat) : confM ops i = confS ops i := by
 refine Nat.eq_of_testBit_eq fun k => ?_
 rw [Bool.eq_iff_iff]
 unfold confM confS
 rw [confL_eq, orL_bit, orAll_testBit]
 constructor
 ·rintro ⟨-, o, ho, hp⟩
  rw [Nat.sub_zero, Array.getElem?_toList] at ho
  refine ⟨k, List.mem_range.2 (Array.getElem?_eq_some_iff.1 ho).1, ?_⟩
  have e : apartM ops i k = Nat.beq (Nat.lor (Nat.land (dstM ops i) (Nat.lor (lookO ops o) (dstO o))) (Nat.land (dstO o) (lookM ops i))) 0 := by
   unfold apartM
   have e1 : lookM ops k = lookO ops o := by unfold lookM; rw [ho]; rfl
   have e2 : dstM ops k = dstO o := by unfold dstM; rw [ho]; rfl
   rw [e1, e2]
  unfold confP at hp
  rw [waitM_eq ho, e]
  simp only [Bool.not_eq_true'] at hp
  rw [hp]
 ·rintro ⟨x, hx, hk⟩
  have hx : x < ops.size := List.mem_range.1 hx
  have hxk : x = k := by
   split at hk
   ·cases hk
   ·injection hk
  subst hxk
  have ho : ops[x]? = some ops[x] := by simp [hx]
  refine ⟨Nat.zero_le _, ops[x], by rw [Nat.sub_zero, Array.getElem?_toList, ho], ?_⟩
  have e : apartM ops i x = Nat.beq (Nat.lor (Nat.land (dstM ops i) (Nat.lor (lookO ops ops[x]) (dstO ops[x]))) (Nat.land (dstO ops[x]) (lookM ops i))) 0 := by
   unfold apartM
   have e1 : lookM ops x = lookO ops ops[x] := by unfold lookM; rw [ho]; rfl
   have e2 : dstM ops x = dstO ops[x] := by unfold dstM; rw [ho]; rfl
   rw [e1, e2]
  rw [waitM_eq ho, e] at hk
  unfold confP
  split at hk
  ·cases hk
  ·rename_i h
   rw [h]
   rfl
def freeM (ops : Array Oper) (m i : Nat) : Bool := subM (confM ops i) m
theorem freeM_spec {ops : Array Oper} {m i : Nat} {o : Oper} (ho : ops[i]? = some o) (h : freeM ops m i = true) : Region.free .any ops (listedOf ops.size m) i = true := by
 unfold Region.free
 rw [ho]
 simp only [List.all_eq_true, List.mem_range]
 intro j hj
 by_cases hji : j = i
 ·simp [hji]
 ·rw [listedOf_getD, if_pos hj]
  unfold freeM at h
  rw [subM_spec] at h
  cases hb : m.testBit j with
  | true => simp
  | false =>
    have hoj : ops[j]? = some ops[j] := by simp [hj]
    have h2 : ¬ (confM ops i).testBit j = true := fun hc => by rw [h j hc] at hb; cases hb
    rw [confM_slow] at h2
    unfold confS at h2
    simp only [orAll_testBit] at h2
    have h3 := fun hx => h2 ⟨j, List.mem_range.2 hj, hx⟩
    have hbq : Nat.beq j i = false := by
     cases hb : Nat.beq j i with
     | false => rfl
     | true => exact absurd (Nat.eq_of_beq_eq_true hb) hji
    simp only [hbq, Bool.false_or] at h3
    cases hx : (waitM ops j).testBit i || apartM ops i j with
    | false => rw [hx] at h3; exact absurd rfl h3
    | true =>
      rw [Bool.or_eq_true] at hx
      rw [hoj]
      rcases hx with hx | hx
      ·unfold waitM at hx
       rw [hoj] at hx
       simp only [orAll_testBit] at hx
       obtain ⟨e, he, hk⟩ := hx
       have hany : (ops[j].after.any fun e => Region.binds .any e && e.on == i) = true := by
        rw [Array.any_eq_true']
        refine ⟨e, by simpa using he, ?_⟩
        split at hk
        ·rename_i hbd
         injection hk with hk
         simp [hbd, hk]
        ·cases hk
       simp only [hany, Bool.true_or, Bool.or_true]
      ·simp only [apartM_spec ho hoj hx, Bool.or_true]
def plainM (ops : Array Oper) : Nat := orAll (fun j => match ops[j]? with
 | some o => match plainOp o with
   | true => some j
   | false => none
 | none => none) (List.range ops.size)
def allPlain (ops : Array Oper) (m : Nat) : Bool := subM (plainM ops) m
theorem allPlain_spec {ops : Array Oper} {m : Nat} (h : allPlain ops m = true) : AllPlain ops (listedOf ops.size m) := fun i o ho hu => by
 have hi : i < ops.size := (Array.getElem?_eq_some_iff.1 ho).1
 rw [listedOf_getD, if_pos hi] at hu
 cases hp : plainOp o with
 | false => rfl
 | true =>
   have h1 : (plainM ops).testBit i = true := (orAll_testBit i _).2 ⟨i, List.mem_range.2 hi, by rw [ho]; simp only [hp]⟩
   rw [subM_spec.1 h i h1] at hu
   cases hu
def isReady (ops : Array Oper) (m i : Nat) : Bool := Nat.blt i ops.size && (!tb m i && (Nat.blt (waitM ops i) (1 <<< ops.size) && subM (waitM ops i) m))
theorem isReady_spec {ops : Array Oper} {m i : Nat} (h : isReady ops m i = true) : i ∈ readyM ops m := by
 unfold isReady at h
 rw [Bool.and_eq_true, Nat.blt_eq, tb_eq] at h
 rw [readyM_slow]
 exact List.mem_filter.2 ⟨List.mem_range.2 h.1, h.2⟩
def dropOne (i : Nat) : List Nat → List Nat
 | [] => []
 | j :: r => match Nat.beq i j with
   | true => r
   | false => j :: dropOne i r
inductive Shape where
 | act (l : List (Addr × Value)) (v : Value)
 | new (c : Obj) (k : Nat → Sem Next)
def shapeOf (P : Program) (st : Bool) (s : Sem Next) : Option Shape :=
 match newOf P s with
 | some (c, k) => some (.new c k)
 | none => match storesOf P s with
   | none => none
   | some (l, nx) => match nextVal nx, st || l.isEmpty with
     | some v, true => some (.act l v)
     | _, _ => none
theorem shapeOf_act {P : Program} {st : Bool} {s : Sem Next} {l : List (Addr × Value)} {v : Value} (h : shapeOf P st s = some (.act l v)) : (st = false → l = []) ∧ ∃ nx, storesOf P s = some (l, nx) ∧ nextVal nx = some v := by
 unfold shapeOf at h
 split at h
 ·cases h
 ·split at h
  ·cases h
  ·rename_i l' nx hs
   split at h
   ·rename_i v' hv hst
    injection h with h
    injection h with h1 h2
    subst h1 h2
    refine ⟨fun h0 => ?_, nx, hs, hv⟩
    rw [h0, Bool.false_or] at hst
    exact List.isEmpty_iff.1 hst
   ·cases h
theorem shapeOf_new {P : Program} {st : Bool} {s : Sem Next} {c : Obj} {k : Nat → Sem Next} (h : shapeOf P st s = some (.new c k)) : newOf P s = some (c, k) := by
 unfold shapeOf at h
 split at h
 ·rename_i c' k' hn
  injection h with h
  injection h with h1 h2
  subst h1 h2
  exact hn
 ·split at h
  ·cases h
  ·split at h
   ·injection h with h; cases h
   ·cases h
def firstSimple (P : Program) (ops : Array Oper) (m : Nat) (a : F) : List Nat → Option (Nat × Oper × Shape)
 | [] => none
 | i :: rest => match ops[i]? with
   | none => none
   | some o => match isReady ops m i && (plainOp o && freeM ops m i) with
     | false => firstSimple P ops m a rest
     | true => match Region.wanted o (a.yielded ops) with
       | false => some (i, o, .act [] undef)
       | true => match shapeOf P (stoOp o) (execOp a.eval o) with
         | some s => some (i, o, s)
         | none => firstSimple P ops m a rest
def ordered (ops : Array Oper) (listed : Array Bool) : Bool := (List.range ops.size).all fun i => listed.getD i true || match ops[i]? with
 | some o => plainOp o || (List.range ops.size).all fun p => listed.getD p true || match ops[p]? with
   | some q => !plainOp q || o.after.any fun e => Region.binds .any e && Nat.beq e.on p
   | none => true
 | none => true
theorem ordered_spec {ops : Array Oper} {listed : Array Bool} (h : ordered ops listed = true) : Ordered ops listed := fun i p o q ho hu hp hq hv hpl => by
 simp only [ordered, List.all_eq_true, List.mem_range] at h
 have h1 := h i (Array.getElem?_eq_some_iff.1 ho).1
 simp only [ho, hu, hp, Bool.false_or, List.all_eq_true, List.mem_range] at h1
 have h2 := h1 p (Array.getElem?_eq_some_iff.1 hq).1
 simp only [hq, hv, hpl, Bool.false_or, Bool.not_true] at h2
 obtain ⟨e, he, hb⟩ := Array.any_eq_true'.1 h2
 simp only [Bool.and_eq_true] at hb
 exact ⟨e, he, hb.1, Nat.eq_of_beq_eq_true hb.2⟩
def chained (ops : Array Oper) (listed : Array Bool) : Bool := (List.range ops.size).all fun i => listed.getD i true || match ops[i]? with
 | some o => !stoOp o || (List.range ops.size).all fun p => Nat.beq i p || (listed.getD p true || match ops[p]? with
   | some q => !stoOp q || ((o.after.any fun e => Region.binds .any e && Nat.beq e.on p) || (q.after.any fun e => Region.binds .any e && Nat.beq e.on i))
   | none => true)
 | none => true
theorem any_waits {o : Oper} {p : Nat} (h : (o.after.any fun e => Region.binds .any e && Nat.beq e.on p) = true) : ∃ e ∈ o.after, Region.binds .any e = true ∧ e.on = p := by
 obtain ⟨e, he, hb⟩ := Array.any_eq_true'.1 h
 simp only [Bool.and_eq_true] at hb
 exact ⟨e, he, hb.1, Nat.eq_of_beq_eq_true hb.2⟩
theorem chained_spec {ops : Array Oper} {listed : Array Bool} (h : chained ops listed = true) : Chain ops listed := fun i p o q hne ho hu hp hq hv hpl => by
 simp only [chained, List.all_eq_true, List.mem_range] at h
 have h1 := h i (Array.getElem?_eq_some_iff.1 ho).1
 simp only [ho, hu, hp, Bool.false_or, Bool.not_true, List.all_eq_true, List.mem_range] at h1
 have h2 := h1 p (Array.getElem?_eq_some_iff.1 hq).1
 have hb : Nat.beq i p = false := by
  cases hb : Nat.beq i p with
  | false => rfl
  | true => exact absurd (Nat.eq_of_beq_eq_true hb) hne
 simp only [hq, hv, hpl, hb, Bool.false_or, Bool.not_true, Bool.or_eq_true] at h2
 exact h2.imp any_waits any_waits
abbrev RestE (α : Type) := Nat → Nat → F → List Blk → T α
def layN (m : Nat) : List (Addr × Value) → List Blk → (List Blk → T α) → T α
 | [], L, k => k L
 | p :: r, L, k => pickT L p.1.block fun b j => match b with
   | ⟨n, .obj (.cells c t (lo, hi)), _⟩ => match Nat.blt j m, p.1.spot, one p.2 with
     | true, none, true => match c.toList[p.1.off]?, (decide (lo ≤ p.1.off) && decide (p.1.off < hi)) with
       | some _, false => forceT (L.set j ⟨n, .obj (.cells (c.setIfInBounds p.1.off p.2) t (lo, hi)), true⟩) fun L1 => layN m r L1 k
       | _, _ => .fail
     | _, _, _ => .fail
   | _ => .fail
def evRest (P : Program) (ops : Array Oper) (fin : RestE α) : Nat → List Nat → Nat → Nat → F → List Blk → T α
 | 0, _, _, m, a, L => match allPlain ops m with
   | true => fin 0 m a L
   | false => .fail
 | n + 1, td, c, m, a, L => match allPlain ops m with
   | true => fin (n + 1) m a L
   | false => match firstSimple P ops m a td with
     | some (i, o, .act l v) => layN c l L fun L1 => evRest P ops fin n (dropOne i td) c (m ||| 1 <<< i) (a.put o.dst v) L1
     | some (i, o, .new x k) => .ask fun b => match pureOf P (k b.n) with
       | some v => evRest P ops fin n (dropOne i td) (c + 1) (m ||| 1 <<< i) (a.put o.dst v) (⟨b.n, .obj x, true⟩ :: L)
       | none => .fail
     | none => .fail
def backAll : List Blk → List Blk → (List Blk → T α) → T α
 | [], _, k => k []
 | p :: ps, L, k => pickT L p.nm fun b _ => backAll ps L fun l => k (b :: l)
def backTT (L0 L1 : List Blk) (k : T α) : T α := .or (.tail (L0.map (·.nm))) fun d => .or (.tail (L1.map (·.nm))) fun d1 => .same (.blks (L0.drop d)) (.blks (L1.drop d1)) (backAll (L0.take d) L1 fun l => .same (.blks (L0.take d)) (.blks l) k)
def dropM : Nat → List Blk → List Blk
 | _, [] => []
 | m, p :: ps => match Nat.beq (Nat.mod m 2) 0 with
   | true => p :: dropM (Nat.div m 2) ps
   | false => dropM (Nat.div m 2) ps
theorem dropM_sub {p : Blk} : ∀ {L : List Blk} {m : Nat}, p ∈ dropM m L → p ∈ L
 | [], _, h => h
 | q :: L, m, h => by
   unfold dropM at h
   split at h
   ·rcases List.mem_cons.1 h with rfl | h
    ·exact Sy.mH
    ·exact Sy.mC _ (dropM_sub h)
   ·exact Sy.mC _ (dropM_sub h)
def heldT (ops : Array Oper) (m : Nat) (g : Option G) (a : F) (L0 : List Blk) (i : Nat) (k : Option G → F → T α) : T α :=
 match isReady ops m i with
 | false => .fail
 | true => match freeM ops m i with
   | false => .fail
   | true => match ops[i]? with
     | none => .fail
     | some o => match guardOf a ops o with
       | .test _ b _ => match groupOk ops o with
         | true => match g with
           | none => litT b (guardT a ops o (fun a => heldV P a L0 o fun v => k none (a.put o.dst v)) (fun a => k none (a.put o.dst undef))) (heldG P ops L0 g a o k)
           | some _ => heldG P ops L0 g a o k
         | false => guardT a ops o (fun a => heldV P a L0 o fun v => k none (a.put o.dst v)) (fun a => k none (a.put o.dst undef))
       | _ => heldG P ops L0 g a o k
def heldKind (o : Oper) : Bool := match o.op with
 | .move _ | .assign _ | .convert .. | .unOp .. | .fieldAddr .. | .load .. | .pick .. | .extract .. | .binOp .. | .indexAddr .. | .index .. | .slice .. | .field .. | .nilCheck .. | .build .. | .lookup .. | .makeFunc .. => true
 | .call c => match c.callee with
   | .builtin .len => true
   | .builtin .cap => true
   | .builtin .max => true
   | .builtin .min => true
   | _ => false
 | _ => false
def rootOf (ops : List Oper) : Nat → Operand → Option Nat
 | 0, _ => none
 | n + 1, .tmp s => match @List.rec Oper (fun _ => Option Op) none (fun o _ ih => match o.dst with
   | some d => match Nat.beq d s with
     | true => some o.op
     | false => ih
   | none => ih) ops with
  | none => some s
  | some (.fieldAddr _ y _) => rootOf ops n y
  | some (.indexAddr _ y _) => rootOf ops n y
  | some (.move y) => rootOf ops n y
  | some (.nilCheck y) => rootOf ops n y
  | some _ => none
 | _, _ => none
def storeAddr (o : Oper) : Option Operand := match o.op with
 | .store _ x _ => some x
 | .mapUpdate _ x _ _ => some x
 | _ => none
def readAddr (o : Oper) : Option Operand := match o.op with
 | .load _ x => some x
 | .convert _ _ x => some x
 | _ => none
def storeRoots (ops : List Oper) : List Oper → List Nat
 | [] => []
 | o :: r => match storeAddr o with
   | none => storeRoots ops r
   | some x => match rootOf ops 10 x with
     | none => storeRoots ops r
     | some s => s :: storeRoots ops r
def orWaits (ops : Array Oper) (acc : Nat) : List Nat → Nat
 | [] => acc
 | j :: r => match tb acc j with
   | true => Nat.lor (waitM ops j) (orWaits ops acc r)
   | false => orWaits ops acc r
def closM (ops : Array Oper) : Nat → Nat → Nat
 | 0, acc => acc
 | n + 1, acc => match Nat.beq (orWaits ops acc (List.range ops.size)) acc with
   | true => acc
   | false => closM ops n (orWaits ops acc (List.range ops.size))
def closW (ops : Array Oper) (f : Nat) : Nat := closM ops ops.size (waitM ops f)
def finM (ops : Array Oper) : List Nat → Nat
 | [] => Nat.sub (Nat.shiftLeft 1 ops.size) 1
 | f :: r => Nat.land (closW ops f) (finM ops r)
def forceM {β : Type} (m : Nat) (k : Nat → β) : β := @Nat.rec (fun _ => β) (k 0) (fun n _ => k (Nat.succ n)) m
theorem forceM_eq {β : Type} (m : Nat) (k : Nat → β) : forceM m k = k m := by cases m <;> rfl
def closedM (ops : Array Oper) (m : Nat) : Bool := (List.range ops.size).all fun j => !tb m j || (Nat.blt (waitM ops j) (1 <<< ops.size) && subM (waitM ops j) m)
def noRead (o : Oper) : Bool := match o.op with
 | .move _ | .assign _ | .extract .. | .pick .. | .binOp .. | .unOp .. | .fieldAddr .. | .build .. | .nilCheck _ | .indexAddr .. | .makeFunc .. => true
 | _ => false
def isAlloc (o : Oper) : Bool := match o.guard with
 | none => match o.op with
   | .alloc _ => true
   | _ => false
 | some _ => false
def isCall (o : Oper) : Bool := match o.op with
 | .call c => match c.callee with
   | .builtin _ => false
   | _ => true
 | _ => false
def findA (ops : Array Oper) (p : Oper → Bool) : List Nat → Bool
 | [] => false
 | i :: r => match ops[i]? with
   | some o => match p o with
     | true => true
     | false => findA ops p r
   | none => findA ops p r
def heldJ (ops : Array Oper) (fw m i : Nat) (l : List Oper) : Nat → Option Nat := @List.rec Oper (fun _ => Nat → Option Nat) (fun _ => none) (fun o _ ih j => match Nat.beq (Nat.mod (Nat.shiftRight m j) 2) 0 with
 | false => ih (Nat.succ j)
 | true => match Nat.beq (Nat.land (waitO o) m) (waitO o) with
   | false => ih (Nat.succ j)
   | true => match heldKind o with
     | false => ih (Nat.succ j)
     | true => match tb fw j || noRead o with
       | false => ih (Nat.succ j)
       | true => match Nat.beq j i with
         | true => ih (Nat.succ j)
         | false => match freeM ops m j with
           | true => some j
           | false => ih (Nat.succ j)) l
def callLeft (m : Nat) (l : List Oper) : Nat → Bool := @List.rec Oper (fun _ => Nat → Bool) (fun _ => false) (fun o _ ih j => match Nat.beq (Nat.mod (Nat.shiftRight m j) 2) 0 with
 | false => ih (Nat.succ j)
 | true => match isCall o with
   | true => true
   | false => ih (Nat.succ j)) l
def sugJ (ops : Array Oper) (fw : Nat) (m : Nat) : Nat := match heldJ ops fw m ops.size ops.toList 0 with
 | some j => j
 | none => match readyM ops m with
   | [] => ops.size
   | i :: r => match r with
     | [] => ops.size + 2
     | _ => match findA ops isAlloc (i :: r), callLeft m ops.toList 0 with
       | true, true => ops.size + 3
       | _, _ => ops.size + 1
def lastM (ops : Array Oper) (fs : List Nat) (m i : Nat) : Bool := fs.contains i && match readyM ops (m ||| 1 <<< i) with
 | [] => true
 | _ => false
def restFin (ops : Array Oper) (fs : List Nat) (m i : Nat) : Bool := fs.contains i && (List.range ops.size).all fun k => tb m k || fs.contains k
def evFin (fn : FuncId) (call : CallE α) (ops : Array Oper) (fs : List Nat) (c : F → List Blk → T α) : Nat → Nat → F → List Blk → T α
 | 0, m, a, L => match readyM ops m with
   | [] => c a L
   | _ => .fail
 | n + 1, m, a, L => match readyM ops m with
   | [] => c a L
   | i :: r => outsT (i :: r) fun i => match fs.contains i with
     | true => evAt P S fn call ops i a L fun a1 L1 => evFin fn call ops fs c n (m ||| 1 <<< i) a1 L1
     | false => .fail
def allocOf (P : Program) (ops : Array Oper) (i : Nat) : Option (Nat × Nat × Array Value) := match ops[i]? with
 | some o => match o.guard, o.dst, o.op with
   | none, some d, .alloc t => match P.info? t with
     | some inf => match inf.zero with
       | some z => some (d, t, z.cells)
       | none => none
     | none => none
   | _, _, _ => none
 | none => none
def findOp (ops : Array Oper) (p : Oper → Bool) : List Nat → Option Nat
 | [] => none
 | i :: r => match ops[i]? with
   | some o => match p o with
     | true => some i
     | false => findOp ops p r
   | none => findOp ops p r
def oldT (Ls : List Blk) : List Blk → T α → T α
 | [], k => k
 | p :: r, k => match p.own with
   | true => oldT Ls r k
   | false => pickT Ls p.nm fun _ _ => oldT Ls r k
def oldTT (Ls L : List Blk) (k : T α) : T α := .or .force (two (oldT Ls L k) (.or (.tail (L.map (·.nm))) fun d => .or (.tail (Ls.map (·.nm))) fun d1 => .same (.blks (L.drop d)) (.blks (Ls.drop d1)) (oldT Ls (L.take d) k)))
def eqN : List Nat → List Nat → Bool
 | [], [] => true
 | a :: l, b :: r => match Nat.beq a b with
   | true => eqN l r
   | false => false
 | _, _ => false
def sugFl (ops : Array Oper) (fw i : Nat) (m : Nat) : Nat := match heldJ ops fw m i ops.toList 0 with
 | some j => j
 | none => match dropOne i (readyM ops m) with
   | [] => ops.size
   | _ => ops.size + 1
def evFl (fn : FuncId) (call : CallE α) (ops : Array Oper) (fw : Nat) (L0 : List Blk) (bk : List Blk → List Blk) (i d : Nat) (x : Obj) (Ls : List Blk) (fin : RestE α) : Nat → Nat → F → List Blk → T α
 | 0, _, _, _ => .fail
 | n + 1, m, a, L => .or (.sug (sugFl ops fw i m) (ops.size + 2)) fun j => match Nat.blt j ops.size with
   | true => match Nat.beq j i || Nat.beq n 0 with
     | true => .fail
     | false => .ask fun v => match tb fw j with
       | false => heldT P ops m none (a.put (some d) v.v) [] j fun _ a' => .same (.val (a'.get d)) (.val v.v) (evFl fn call ops fw L0 bk i d x Ls fin n (m ||| 1 <<< j) a' L)
       | true => heldT P ops m none (a.put (some d) v.v) L0 j fun _ a' => .same (.val (a'.get d)) (.val v.v) (evFl fn call ops fw L0 bk i d x Ls fin n (m ||| 1 <<< j) a' L)
   | false => match Nat.beq j ops.size with
     | true => match readyM ops m with
       | [k] => match Nat.beq k i with
         | true => oldTT Ls L (.ask fun b => fin n (m ||| 1 <<< i) (a.put (some d) (.pointer (some ⟨b.n, 0, none⟩))) (⟨b.n, .obj x, true⟩ :: L))
         | false => .fail
       | _ => .fail
     | false => match Nat.beq n 0 || !(eqN (readyM ops (m ||| 1 <<< i)) (dropOne i (readyM ops m))) with
       | true => .fail
       | false => outsT (dropOne i (readyM ops m)) fun k => .ask fun v => evAt P S fn call ops k (a.put (some d) v.v) L fun a1 L1 => .same (.val (a1.get d)) (.val v.v) (forceL (bk L1) fun LB => .or (.names (L0.map (·.nm)) (LB.map (·.nm))) (two (.same (.blks L0) (.blks LB) (evFl fn call ops fw L0 bk i d x Ls fin n (m ||| 1 <<< k) a1 L1))
         (.or .force (two (backAll L0 L1 fun l => .same (.blks L0) (.blks l) (evFl fn call ops fw L0 bk i d x Ls fin n (m ||| 1 <<< k) a1 L1)) (backTT L0 L1 (evFl fn call ops fw L0 bk i d x Ls fin n (m ||| 1 <<< k) a1 L1))))))
def evFloat (fn : FuncId) (call : CallE α) (ops : Array Oper) (fw : Nat) (L0 : List Blk) (bk : List Blk → List Blk) (fin : RestE α) : RestE α := fun n m a L => match findOp ops isAlloc (readyM ops m) with
 | none => .fail
 | some i => match isReady ops m i with
   | false => .fail
   | true => match allocOf P ops i with
     | none => .fail
     | some (d, t, z) => evFl P S fn call ops fw L0 bk i d (.cells z t (0, 0)) L fin n m a L
def evAny (fn : FuncId) (call : CallE α) (ops : Array Oper) (fs : List Nat) (fw : Nat) (L0 : List Blk) (bk : List Blk → List Blk) (can : Nat → Bool) (rest flt : RestE α) (c : F → List Blk → T α) : Nat → Nat → Option G → F → List Blk → T α
 | 0, m, _, a, L => match readyM ops m with
   | [] => c a L
   | _ => .fail
 | n + 1, m, g, a, L => .or (.sug (sugJ ops fw m) (ops.size + 3)) fun j => match Nat.blt j ops.size with
   | true => match tb fw j with
     | false => heldT P ops m g a [] j fun g' a' => evAny fn call ops fs fw L0 bk can rest flt c n (m ||| 1 <<< j) g' a' L
     | true => heldT P ops m g a L0 j fun g' a' => evAny fn call ops fs fw L0 bk can rest flt c n (m ||| 1 <<< j) g' a' L
   | false => match Nat.beq j ops.size with
     | true => match readyM ops m with
       | [] => c a L
       | _ => .fail
     | false => match Nat.beq j (ops.size + 1) with
       | true => match can m with
         | true => rest (n + 1) m a L
         | false => .fail
       | false => match Nat.beq j (ops.size + 3) with
        | true => flt (n + 1) m a L
        | false => outsT (readyM ops m) fun i => evAt P S fn call ops i a L fun a1 L1 =>
         match lastM ops fs m i with
         | true => c a1 L1
         | false => match restFin ops fs m i with
           | true => evFin P S fn call ops fs c n (m ||| 1 <<< i) a1 L1
           | false => forceL (bk L1) fun LB => .or (.names (L0.map (·.nm)) (LB.map (·.nm))) (two (.same (.blks L0) (.blks LB) (evAny fn call ops fs fw L0 bk can rest flt c n (m ||| 1 <<< i) none a1 L1))
           (.or .force (two (backAll L0 L1 fun l => .same (.blks L0) (.blks l) (evAny fn call ops fs fw L0 bk can rest flt c n (m ||| 1 <<< i) none a1 L1)) (backTT L0 L1 (evAny fn call ops fs fw L0 bk can rest flt c n (m ||| 1 <<< i) none a1 L1)))))
def evMany (fn : FuncId) (call : CallE α) (ops : Array Oper) (fs : List Nat) (fw : Nat) (L0 : List Blk) (bk : List Blk → List Blk) (c : F → List Blk → T α) : Nat → RestE α
 | 0 => fun n m a L => evAny P S fn call ops fs fw L0 bk (fun _ => false) (fun _ _ _ _ => .fail) (fun _ _ _ _ => .fail) c n m none a L
 | r + 1 => fun n m a L => evAny P S fn call ops fs fw L0 bk (fun m => ordered ops (listedOf ops.size m) && chained ops (listedOf ops.size m)) (fun n m a L => evRest P ops (fun n m a L => match closedM ops m with
   | true => evMany fn call ops fs fw L0 bk c r n m a L
   | false => .fail) n (List.range ops.size) 0 m a L) (evFloat P S fn call ops fw L0 bk (evMany fn call ops fs fw L0 bk c r)) c n m none a L
def compactW : Nat → List (Nat × Value) → List (Nat × Value)
 | _, [] => []
 | m, p :: r => match Nat.beq (Nat.mod (Nat.shiftRight m p.1) 2) 0 with
   | true => p :: compactW (Nat.lor m (Nat.shiftLeft 1 p.1)) r
   | false => compactW m r
def shorten (f : F) : F := ⟨f.n, compactW 0 f.w⟩
theorem getW_compact : ∀ (w : List (Nat × Value)) (m t : Nat), m.testBit t = false → getW (compactW m w) t = getW w t
 | [], _, _, _ => rfl
 | p :: r, m, t, h => by
   unfold compactW
   rw [bit_of]
   cases hb : m.testBit p.1 with
   | false =>
     simp only [Bool.not_false]
     rw [getW_cons, getW_cons]
     split
     ·rfl
     ·rename_i hne
      refine getW_compact r _ t ?_
      show (m ||| 1 <<< p.1).testBit t = false
      rw [testBit_or_shift, h]
      simp [Ne.symm hne]
   | true =>
     simp only [Bool.not_true]
     rw [getW_compact r m t h, getW_cons, if_neg]
     intro he
     rw [he, h] at hb
     cases hb
theorem RelF.shorten {f : F} {a : Act} (h : RelF f a) : RelF (shorten f) a :=
 ⟨h.defers, h.size, fun t => by rw [h.get t]; exact (getW_compact f.w 0 t (by simp)).symm⟩
def minusT (a : F) (ops : List Oper) : List Oper → List Blk → (List Nat → List Blk → T α) → T α
 | [], L, k => k [] L
 | o :: r, L, k => match storeAddr o with
   | none => minusT a ops r L k
   | some x => match rootOf ops 10 x with
     | none => minusT a ops r L k
     | some s => match a.get s with
       | .pointer (some ⟨b, _, _⟩) => .or (.pick b (L.map (·.nm) ++ [b])) fun j => forceL (L.eraseIdx j) fun L' => minusT a ops r L' fun js L2 => k (j :: js) L2
       | .slice (some ⟨b, _, _⟩) _ _ => .or (.pick b (L.map (·.nm) ++ [b])) fun j => forceL (L.eraseIdx j) fun L' => minusT a ops r L' fun js L2 => k (j :: js) L2
       | .map (some b) => .or (.pick b (L.map (·.nm) ++ [b])) fun j => forceL (L.eraseIdx j) fun L' => minusT a ops r L' fun js L2 => k (j :: js) L2
       | _ => minusT a ops r L k
theorem minusT_spec {a : F} {ops : List Oper} {K : α → Prop} : ∀ {l : List Oper} {L : List Blk} {k : List Nat → List Blk → T α}, (minusT a ops l L k).all K → ∃ js L', (∀ p ∈ L', p ∈ L) ∧ (k js L').all K
 | [], L, k, h => ⟨[], L, fun _ h => h, h⟩
 | o :: r, L, k, h => by
   have er : ∀ {b : Nat}, (T.or (Hint.pick b (L.map (·.nm) ++ [b])) fun j => forceL (L.eraseIdx j) fun L' => minusT a ops r L' fun js L2 => k (j :: js) L2).all K → ∃ js L', (∀ p ∈ L', p ∈ L) ∧ (k js L').all K := fun h => by
    obtain ⟨j, h⟩ := h
    dsimp only at h
    rw [forceL_eq] at h
    obtain ⟨js, L', h1, h2⟩ := minusT_spec h
    exact ⟨_, L', fun p hp => List.mem_of_mem_eraseIdx (h1 p hp), h2⟩
   unfold minusT at h
   split at h
   ·exact minusT_spec h
   ·split at h
    ·exact minusT_spec h
    ·split at h
     ·exact er h
     ·exact er h
     ·exact er h
     ·exact minusT_spec h
def eraseAll : List Nat → List Blk → List Blk
 | [], L => L
 | j :: js, L => eraseAll js (L.eraseIdx j)
theorem eraseAll_sub {p : Blk} : ∀ {js : List Nat} {L : List Blk}, p ∈ eraseAll js L → p ∈ L
 | [], _, h => h
 | _ :: _, _, h => List.mem_of_mem_eraseIdx (eraseAll_sub h)
def backOf (n0 : Nat) (js : List Nat) (mask : Nat) (L : List Blk) : List Blk := dropM mask (eraseAll js (L.drop (L.length - n0)))
theorem backOf_sub {n0 : Nat} {js : List Nat} {mask : Nat} (L : List Blk) (p : Blk) (h : p ∈ backOf n0 js mask L) : p ∈ L := List.mem_of_mem_drop (eraseAll_sub (dropM_sub h))
def noteSlots (ops : List Oper) (st : List Nat) : List Oper → Option (List Nat)
 | [] => some []
 | o :: r => match readAddr o with
   | none => noteSlots ops st r
   | some (.const _) => noteSlots ops st r
   | some x => match rootOf ops 10 x with
     | none => noteSlots ops st r
     | some s => match noteSlots ops st r with
       | none => none
       | some l => match st.contains s || l.contains s with
         | true => some l
         | false => some (s :: l)
def tailOf (L : List Blk) : Option Nat → List Blk
 | none => []
 | some d => L.drop d
def noteT (a : F) (L : List Blk) : Option Nat → List Nat → (List Blk → T α) → T α
 | tl, [], k => k (tailOf L tl)
 | tl, s :: r, k => .or .force (two (match a.get s with
   | .pointer (some ⟨b, _, _⟩) => .or (.pick b (L.map (·.nm) ++ [b])) fun j => match nth L j with
     | some p => noteT a L tl r fun R => k (p :: R)
     | none => noteT a L tl r k
   | .slice (some ⟨b, _, _⟩) _ _ => .or (.pick b (L.map (·.nm) ++ [b])) fun j => match nth L j with
     | some p => noteT a L tl r fun R => k (p :: R)
     | none => noteT a L tl r k
   | _ => noteT a L tl r k) (match tl with
     | some d => noteT a L (some d) r k
     | none => .or (.tail (L.map (·.nm))) fun d => noteT a L (some d) r k))
theorem noteT_spec {a : F} {L : List Blk} {K : α → Prop} : ∀ {l : List Nat} {tl : Option Nat} {k : List Blk → T α}, (noteT a L tl l k).all K → ∃ R, (∀ p ∈ R, p ∈ L) ∧ (k R).all K
 | [], tl, k, h => ⟨tailOf L tl, fun p hp => by
   cases tl with
   | none => cases hp
   | some d => exact List.mem_of_mem_drop hp, h⟩
 | s :: r, tl, k, h => by
   have er : ∀ {b : Nat}, (T.or (Hint.pick b (L.map (·.nm) ++ [b])) fun j => match nth L j with
     | some p => noteT a L tl r fun R => k (p :: R)
     | none => noteT a L tl r k).all K → ∃ R, (∀ p ∈ R, p ∈ L) ∧ (k R).all K := fun h => by
    obtain ⟨j, h⟩ := h
    dsimp only at h
    split at h
    ·rename_i p hp
     obtain ⟨R, h1, h2⟩ := noteT_spec h
     rw [nth_eq] at hp
     refine ⟨p :: R, fun q hq => ?_, h2⟩
     rcases List.mem_cons.1 hq with rfl | hq
     ·exact List.mem_of_getElem? hp
     ·exact h1 q hq
    ·exact noteT_spec h
   unfold noteT at h
   rcases two_spec h with h | h
   ·split at h
    ·exact er h
    ·exact er h
    ·exact noteT_spec h
   ·split at h
    ·exact noteT_spec h
    ·obtain ⟨d, h⟩ := h
     exact noteT_spec h
def mapArg (a : F) (o : Oper) : Option Nat := match o.op with
 | .call c => match c.args.toList with
   | x :: _ => match a.eval x with
     | .map (some r) => some r
     | _ => none
   | [] => none
 | .lookup _ x _ _ => match a.eval x with
   | .map (some r) => some r
   | _ => none
 | _ => none
def dryR (P : Program) (L : List Blk) (ops : Array Oper) : List Oper → F → List Nat
 | [], _ => []
 | o :: r, a => match heldKind o with
   | false => dryR P L ops r (a.put o.dst undef)
   | true => match guardOf a ops o with
     | .no => dryR P L ops r (a.put o.dst undef)
     | g => match (match g with
       | .test _ b want => match b with
         | true => want
         | false => !want
       | _ => true) with
      | false => dryR P L ops r (a.put o.dst undef)
      | true => match o.op with
        | .nilCheck x => dryR P L ops r (a.put o.dst (a.eval x))
        | .convert _ _ x => match a.eval x with
          | .slice (some ⟨b, _, _⟩) _ _ => b :: dryR P L ops r (a.put o.dst undef)
          | _ => match quick P a.eval o with
            | some v => dryR P L ops r (a.put o.dst v)
            | none => dryR P L ops r (a.put o.dst undef)
        | _ => match doing P a.eval o with
          | .val v => dryR P L ops r (a.put o.dst v)
          | .maybe _ _ v => dryR P L ops r (a.put o.dst v)
          | .load t b off => match L.find? (fun p => Nat.beq p.nm b), sizeP P t, aggOf P t with
            | some p, some n, some g => match cellsLit p.ct off n with
              | some cs => b :: dryR P L ops r (a.put o.dst (match g with
                | true => .agg cs.toArray
                | false => match cs with
                  | [v] => v
                  | _ => undef))
              | none => b :: dryR P L ops r (a.put o.dst undef)
            | _, _, _ => dryR P L ops r (a.put o.dst undef)
          | _ => match mapArg a o with
            | some b => b :: dryR P L ops r (a.put o.dst undef)
            | none => dryR P L ops r (a.put o.dst undef)
def placesOf (L : List Nat) : List Nat → List Nat → List Nat
 | [], _ => []
 | b :: r, seen => match seen.contains b with
   | true => placesOf L r seen
   | false => match L.findIdx? (fun n => Nat.beq n b) with
     | some j => j :: placesOf L r (b :: seen)
     | none => placesOf L r (b :: seen)
def noteX (js : List Nat) (n : Nat) (L : List Blk) : Nat → Nat → (List Blk → T α) → T α
 | 0, _, k => k []
 | f + 1, i, k => .or (.note js i n) fun j => match nth L j with
   | some p => noteX js n L f (i + 1) fun R => k (p :: R)
   | none => k []
theorem noteX_spec {js : List Nat} {n : Nat} {L : List Blk} {K : α → Prop} : ∀ {f i : Nat} {k : List Blk → T α}, (noteX js n L f i k).all K → ∃ R, (∀ p ∈ R, p ∈ L) ∧ (k R).all K
 | 0, _, k, h => ⟨[], fun _ h => (by cases h), h⟩
 | f + 1, i, k, h => by
   obtain ⟨j, h⟩ := h
   dsimp only at h
   split at h
   ·rename_i p hp
    obtain ⟨R, h1, h2⟩ := noteX_spec h
    rw [nth_eq] at hp
    refine ⟨p :: R, fun q hq => ?_, h2⟩
    rcases List.mem_cons.1 hq with rfl | hq
    ·exact List.mem_of_getElem? hp
    ·exact h1 q hq
   ·exact ⟨[], fun _ h => (by cases h), h⟩
def finWaitsAll (ops : Array Oper) (w : Nat) : Bool := (List.range ops.size).all fun i => match ops[i]? with
 | some o => match readAddr o with
   | some _ => tb w i
   | none => true
 | none => true
def isStore (o : Oper) : Bool := match o.op with
 | .store .. => true
 | _ => false
def finOf (ops : Array Oper) : List Nat := match ops.toList.getLast? with
 | some o => match isStore o with
   | true => (List.range ops.size).filter fun i => match ops[i]? with
     | some oi => isStore oi && finWaitsAll ops (closW ops i)
     | none => false
   | false => []
 | none => []
def endsC (ops : Array Oper) : List Nat := (List.range ops.size).filter fun i => match ops[i]? with
 | some oi => isStore oi || isCall oi
 | none => false
def notesOf (ops : List Oper) : Option (List Nat) := noteSlots ops (storeRoots ops ops) ops
def objsOf (L : List Blk) : List Blk := @List.rec Blk (fun _ => List Blk) [] (fun p _ ih => match p.ct with
 | .obj _ => p :: ih
 | _ => ih) L
theorem objsOf_sub {p : Blk} : ∀ {L : List Blk}, p ∈ objsOf L → p ∈ L
 | [], h => h
 | q :: L, h => by
   have h : p ∈ (match q.ct with | .obj _ => q :: objsOf L | _ => objsOf L) := h
   split at h
   ·rcases List.mem_cons.1 h with rfl | h
    ·exact Sy.mH
    ·exact Sy.mC _ (objsOf_sub h)
   ·exact Sy.mC _ (objsOf_sub h)
def hasMk (ops : List Oper) : Bool := @List.rec Oper (fun _ => Bool) false (fun o _ ih => match o.op with
 | .makeFunc .. => true
 | _ => ih) ops
abbrev PieceE (α : Type) := F → List Blk → (Exit → F → List Blk → T α) → T α
def evLoop (f : PieceE α) (c : Exit → F → List Blk → T α) (m : Nat) : F → List Blk → T α :=
 @Nat.rec (fun _ => F → List Blk → T α) (fun _ _ => .fail) (fun _ ih a L => forceL (compactW 0 a.w) fun w => f ⟨a.n, w⟩ L fun x a1 L1 => match x with
  | .normal => ih a1 L1
  | x => c x a1 L1) m
def metBy (k : CallC) (args : Array Value) (L : List Blk) (c : Value → List Blk → T α) : T α :=
 .same (.val (.tuple args)) (.val (.tuple k.args)) (.need k.ok (memBy k.mem L k.outs fun v ns L' => c (v ns) L'))
def loopBy (k : LoopC) (x : Code) (a : F) (L : List Blk) (c : Exit → F → List Blk → T α) : T α :=
 .same (.code x) (.code k.c) (.same (.nat a.n) (.nat k.n) (.same (.val (.tuple (k.sl.map fun p => a.get p.1).toArray)) (.val (.tuple (k.sl.map (·.2)).toArray))
  (.need k.ok (memBy k.mem L k.outs fun o ns L' => .ask fun x => c o.1 ⟨k.n, o.2 ns ++ argsW 0 x.l⟩ L'))))
def metU (k : CallU) (args : Array Value) (L : List Blk) (c : Value → List Blk → T α) : T α :=
 .same (.val (.tuple args)) (.val (.tuple k.args)) (.need k.ok (memU k.rd k.m k.rb k.u1 k.ub k.rest L k.outs fun v ns L' => c (v ns) L'))
def loopU (k : LoopU) (x : Code) (a : F) (L : List Blk) (c : Exit → F → List Blk → T α) : T α :=
 .same (.code x) (.code k.x) (.same (.nat a.n) (.nat k.n) (.same (.val (.tuple (k.sl.map fun p => a.get p.1).toArray)) (.val (.tuple (k.sl.map (·.2)).toArray))
  (.need k.ok (memU k.rd k.m k.rb k.u1 k.ub k.rest L k.outs fun o ns L' => .ask fun x => c o.1 ⟨k.n, o.2 ns ++ argsW 0 x.l⟩ L'))))
def inCall (ev : FuncId → Code → PieceE α) : CallE α := fun f args L c =>
 match nth P.funcs.toList f with
  | none => .fail
  | some fn => match fn.body with
    | none => .fail
    | some b => ev f b (F.init args fn.ntmps) L fun x a L' => match x with
      | .normal => resT P a.get L' fn.results.toList fun l => c (oneV l) L'
      | .ret => resT P a.get L' fn.results.toList fun l => c (oneV l) L'
      | _ => .fail
def evCallC (ev : FuncId → Code → PieceE α) : CallE α := fun f args L c =>
 match S.cl f with
 | k :: ks => .or (.num ((k :: ks).length + 1)) fun j => match nth (k :: ks) j with
   | some k => match Nat.decEq (k args L).f f with
     | .isTrue _ => metBy (k args L) args L c
     | .isFalse _ => .fail
   | none => inCall P ev f args L c
 | [] => inCall P ev f args L c
def evCall (ev : FuncId → Code → PieceE α) : CallE α := fun f args L c =>
 match S.cu f with
 | k :: ks => .or (.num ((k :: ks).length + 1)) fun j => match nth (k :: ks) j with
   | some k => match Nat.decEq (k args L).f f with
     | .isTrue _ => metU (k args L) args L c
     | .isFalse _ => .fail
   | none => evCallC P S ev f args L c
 | [] => evCallC P S ev f args L c
def evLoopC (ev : PieceE α) (fn : FuncId) (n : Nat) (x : Code) (a : F) (L : List Blk) (c : Exit → F → List Blk → T α) : T α := match S.lp fn with
 | k :: ks => .or (.num ((k :: ks).length + 1)) fun j => match nth (k :: ks) j with
   | some k => loopBy (k a L) (.loop x) a L c
   | none => evLoop ev c n a L
 | [] => evLoop ev c n a L
def anyF (fn : FuncId) (id : Nat) (ops : Array Oper) (call : CallE α) (a : F) (L : List Blk) (c : Exit → F → List Blk → T α) : T α := match S.rg fn id with
 | k :: ks => .or (.num (k :: ks).length) fun j => match nth (k :: ks) j with
   | some k => loopBy (k a L) (.region id ops true) a L c
   | none => .fail
 | [] => match Region.noSelect ops with
   | false => .fail
   | true => .or .way fun j => match j with
     | 0 => noteX (placesOf (L.map (·.nm)) (dryR P L ops ops.toList a) []) L.length L 20 0 fun R => forceM (finM ops (finOf ops)) fun fw => evMany P S fn call ops (finOf ops) fw R (fun _ => []) (fun a' L' => c .normal a' L') 4 ops.size 0 a L
     | 2 => .or (.tail (L.map (·.nm))) fun d => forceL (objsOf (L.take d)) fun R => forceM (finM ops (finOf ops)) fun fw => evMany P S fn call ops (finOf ops) fw R (fun _ => []) (fun a' L' => c .normal a' L') 4 ops.size 0 a L
     | 3 => forceM (finM ops (endsC ops)) fun fw => evMany P S fn call ops (endsC ops) fw L (fun _ => []) (fun a' L' => c .normal a' L') 4 ops.size 0 a L
     | _ => match hasMk ops.toList with
       | true => .fail
       | false => match notesOf ops.toList with
         | some sl => noteT a L none sl fun R => forceM (finM ops []) fun fw => evMany P S fn call ops [] fw R (fun _ => []) (fun a' L' => c .normal a' L') 4 ops.size 0 a L
         | none => minusT a ops.toList ops.toList L fun js L1 => .or (.mask [fn, id]) fun mask => forceL (dropM mask L1) fun L0 => forceM (finM ops []) fun fw => evMany P S fn call ops [] fw L0 (backOf L.length js mask) (fun a' L' => c .normal a' L') 4 ops.size 0 a L
def evBody (ev : FuncId → Code → PieceE α) (n : Nat) (fn : FuncId) (x : Code) (a : F) (L : List Blk) (c : Exit → F → List Blk → T α) : T α := match x with
  | .skip | .label _ => c .normal a L
  | .region _ ops false => evOps P S fn (evCall P S ev) ops (fun a' L' => c .normal a' L') (List.range ops.size) none a L
  | .region id ops true => anyF P S fn id ops (evCall P S ev) a L c
  | .seq x y => ev fn x a L fun r a1 L1 => match r with
    | .normal => ev fn y a1 L1 c
    | r => c r a1 L1
  | .cond b x y => match b with
    | .tmp s => match a.get s with
      | .bool t => .cond t (ev fn x (a.put (some s) (.bool true)) L c) (ev fn y (a.put (some s) (.bool false)) L c)
      | _ => .fail
    | b => match a.eval b with
      | .bool t => .cond t (ev fn x a L c) (ev fn y a L c)
      | _ => .fail
  | .block id x => ev fn x a L fun r a1 L1 => match r with
    | .exit id' => match Nat.beq id' id with
      | true => c .normal a1 L1
      | false => c (.exit id') a1 L1
    | r => c r a1 L1
  | .loop x => match S.lu fn with
    | k :: ks => .or (.num ((k :: ks).length + 1)) fun j => match nth (k :: ks) j with
      | some k => loopU (k a L) (.loop x) a L c
      | none => evLoopC S (ev fn x) fn n x a L c
    | [] => evLoopC S (ev fn x) fn n x a L c
  | .exit id => c (.exit id) a L
  | .ret => c .ret a L
  | _ => .fail
def ev (n : Nat) : FuncId → Code → PieceE α :=
 @Nat.rec (fun _ => FuncId → Code → PieceE α) (fun _ _ _ _ _ => .fail) (fun n ih => evBody P S ih n) n
end Go.Proofs.YtjohknpmhlildaaDoor.Sy
end
