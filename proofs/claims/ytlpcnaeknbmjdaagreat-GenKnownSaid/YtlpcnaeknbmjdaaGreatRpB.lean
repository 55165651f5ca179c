/-
  The reference's parser: contracts of what comes next.
-/
import Derived.Test.YtlpcnaeknbmjdaaGreatRpA
import Derived.Test.YtlpcnaeknbmjdaaGreatLxC2
namespace Go.Proofs.YtlpcnaeknbmjdaaGreat
open Go Go.RowKit
open Sy (Let Blk)

/-- A token's cells. -/
structure TokAt (xs : List Value) (a : Nat) (k v ln cl : Int) (tx : ByteArray) : Prop where
  c0 : (Sy.Cont.seg 0 xs).at (0 + Int.toNat (Int.ofNat a) * 5) = some (.int .i64 k)
  c1 : (Sy.Cont.seg 0 xs).at (0 + Int.toNat (Int.ofNat a) * 5 + 1) = some (.string tx)
  c2 : (Sy.Cont.seg 0 xs).at (0 + Int.toNat (Int.ofNat a) * 5 + 1 + 1) = some (.int .u64 v)
  c3 : (Sy.Cont.seg 0 xs).at (0 + Int.toNat (Int.ofNat a) * 5 + 1 + 1 + 1) = some (.int .i64 ln)
  c4 : (Sy.Cont.seg 0 xs).at (0 + Int.toNat (Int.ofNat a) * 5 + 1 + 1 + 1 + 1) = some (.int .i64 cl)

theorem tokAt_of {xs : List Value} {a : Nat} {k v ln cl : Int} {tx : ByteArray} (h : Sy.litN (Sy.dropF (Nat.mul 5 a) xs) 5 = some [.int .i64 k, .string tx, .int .u64 v, .int .i64 ln, .int .i64 cl]) : TokAt xs a k v ln cl tx := by
  obtain ⟨-, h2⟩ := Sy.litN_spec h
  rw [Sy.dropF_eq] at h2
  have key : ∀ j u, [Value.int .i64 k, .string tx, .int .u64 v, .int .i64 ln, .int .i64 cl][j]? = some u → ∀ o, o = 0 + Int.toNat (Int.ofNat a) * 5 + j → (Sy.Cont.seg 0 xs).at o = some u := fun j u hu o ho => by
    have h3 := h2 j u hu
    rw [List.getElem?_drop] at h3
    subst ho
    simp only [Sy.Cont.at]
    rw [if_pos (by omega)]
    rw [← h3]
    congr 1
    have e1 : Nat.mul 5 a = 5 * a := rfl
    have e2 : Int.toNat (Int.ofNat a) = a := rfl
    rw [e1, e2]
    omega
  exact ⟨key 0 _ rfl _ rfl, key 1 _ rfl _ rfl, key 2 _ rfl _ rfl, key 3 _ rfl _ rfl, key 4 _ rfl _ rfl⟩

noncomputable def isF (code k : Int) (tx text : ByteArray) : Bool := match Ex.eqQ code 0 with
  | false => false
  | true => match Ex.eqQ k 3 with
    | true => Sy.eqS tx text
    | false => match Ex.eqQ k 4 with
      | true => Sy.eqS tx text
      | false => false

noncomputable def isC (g n cap a : Nat) (deep code line col : Int) (text : ByteArray) (xs : List Value) (k : Int) (tx : ByteArray) : Sy.CallC :=
  ⟨fIs, #[stV g n cap a deep code line col, .string text], True, ⟨[(g, .seg 0 xs)], [], 0⟩, [Sy.plainO (.bool (isF code k tx text))]⟩

theorem isC_met {g n cap a : Nat} {deep code line col : Int} {text : ByteArray} {xs : List Value} {k v ln cl : Int} {tx : ByteArray} (ht : TokAt xs a k v ln cl tx) (hn : a < n) : Sy.Meets Tryz.prog (isC g n cap a deep code line col text xs k tx) := by
  refine Sy.meets_ofC Sy.S0_holds mixed (is0_run g n cap a deep code line col text xs) fun _ ns => ?_
  simp only [is0_R, Sy.Res.holds, ht.c0, ht.c1, ht.c2, ht.c3, ht.c4]
  refine ⟨⟨by simp, by simpa using hn⟩, ⟨_, rfl⟩, fun h0 => ⟨⟨_, rfl⟩, fun h1 => ⟨⟨_, rfl⟩, fun _ => ⟨⟨_, rfl⟩, fun _ => ⟨⟨_, rfl⟩, fun _ => ?_⟩⟩⟩⟩⟩
  simp only [Option.some.injEq, Value.int.injEq, true_and, Value.string.injEq] at h0 h1
  rw [← h0, ← h1]
  have leaf : ∀ b, b = isF code k tx text → Sy.leafC (isC g n cap a deep code line col text xs k tx) (.bool b, []) := fun b hb => Sy.plainO_leaf (List.mem_singleton_self _) rfl (by rw [hb])
  unfold isF at leaf
  refine ⟨fun h2 => ⟨fun h3 => leaf _ ?_, fun h3 => ⟨fun h4 => leaf _ ?_, fun h4 => leaf _ ?_⟩⟩, fun h2 => leaf _ ?_⟩
  · simp only [Bool.not_not] at h2
    rw [h2, h3]
    rfl
  · simp only [Bool.not_not] at h2
    simp only [cond_true, cond_false] at h4
    rw [h2, h3, h4]
    rfl
  · simp only [Bool.not_not] at h2
    simp only [cond_true, cond_false] at h4
    rw [h2, h3, h4]
  · simp only [Bool.not_not] at h2
    rw [h2]

noncomputable def badC (g n cap a : Nat) (deep code line col : Int) : Sy.CallC :=
  ⟨fBad, #[stV g n cap a deep code line col], True, ⟨[], [], 0⟩, [Sy.plainO (.bool (!(Ex.eqQ code 0)))]⟩
theorem badC_met (g n cap a : Nat) (deep code line col : Int) : Sy.Meets Tryz.prog (badC g n cap a deep code line col) := by
  refine Sy.meets_ofC Sy.S0_holds mixed (bad0_run g n cap a deep code line col) fun _ ns => ?_
  simp only [bad0_R, Sy.Res.holds]
  exact Sy.plainO_leaf (List.mem_singleton_self _) rfl rfl

theorem w_one {a : Nat} (h : a < 1099511627776) : Ex.wrapQ .i64 (Ex.addQ (Int.ofNat a) 1) = Int.ofNat (Nat.succ a) := by
  rw [Ex.wrapQ_eq, Ex.addQ_eq]
  simp [IntKind.wrap, IntKind.signed, IntKind.bits]
  omega

noncomputable def openC (g n cap a d : Nat) (line col : Int) (xs : List Value) : Sy.CallC :=
  ⟨fOpen, #[stV g n cap a (Int.ofNat d) 0 line col], True, ⟨[(g, .seg 0 xs)], [], 0⟩, [Sy.plainO (stV g n cap (Nat.succ a) (Int.ofNat (Nat.succ d)) 0 line col)]⟩
theorem openC_met {g n cap a d : Nat} {line col : Int} {xs : List Value} (hd : d < 100) (hn : a < n) (hm : n ≤ 1099511627776) : Sy.Meets Tryz.prog (openC g n cap a d line col xs) := by
  refine Sy.meets_ofC Sy.S0_holds mixed (open0_run g n cap a (Int.ofNat d) line col xs) fun _ ns => ?_
  simp only [open0_R, Sy.Res.holds]
  refine ⟨fun h => ?_, fun _ => ?_⟩
  · rw [Ex.leQ_eq] at h
    simp at h
    omega
  · rw [w_one (by omega), w_one (by omega)]
    exact Sy.plainO_leaf (List.mem_singleton_self _) rfl rfl

noncomputable def tokV (k v ln cl : Int) (tx : ByteArray) : Value := .agg #[.int .i64 k, .string tx, .int .u64 v, .int .i64 ln, .int .i64 cl]
noncomputable def tokC (g n cap a : Nat) (deep line col kind : Int) (xs : List Value) (k v ln cl : Int) (tx : ByteArray) : Sy.CallC :=
  ⟨fToken, #[stV g n cap a deep 0 line col, .int .i64 kind], True, ⟨[(g, .seg 0 xs)], [], 0⟩, [Sy.plainO (.tuple #[stV g n cap (Nat.succ a) deep 0 line col, tokV k v ln cl tx])]⟩
theorem tokC_met {g n cap a : Nat} {deep line col kind : Int} {xs : List Value} {k v ln cl : Int} {tx : ByteArray} (ht : TokAt xs a k v ln cl tx) (hn : a < n) (hm : n ≤ 1099511627776) (hk : Ex.eqQ k kind = true) : Sy.Meets Tryz.prog (tokC g n cap a deep line col kind xs k v ln cl tx) := by
  refine Sy.meets_ofC Sy.S0_holds mixed (tok0_run g n cap a deep line col kind xs) fun _ ns => ?_
  have c0' : (Sy.Cont.seg 0 xs).at (Nat.add (0 + Int.toNat (Int.ofNat a) * 5) 0) = some (.int .i64 k) := ht.c0
  simp only [tok0_R, Sy.Res.holds, ht.c0, ht.c1, ht.c2, ht.c3, ht.c4, c0']
  refine ⟨⟨by simp, by simpa using hn⟩, ⟨_, rfl⟩, fun h0 => ⟨fun hb => ?_, fun hb => ?_⟩⟩
  · simp only [Option.some.injEq, Value.int.injEq, true_and] at h0
    rw [← h0, hk] at hb
    cases hb
  · refine ⟨⟨by simp, by simpa using hn⟩, ⟨_, rfl⟩, fun h1 => ⟨⟨_, rfl⟩, fun h2 => ⟨⟨_, rfl⟩, fun h3 => ⟨⟨_, rfl⟩, fun h4 => ⟨⟨_, rfl⟩, fun h5 => ?_⟩⟩⟩⟩⟩
    simp only [Option.some.injEq, Value.int.injEq, true_and, Value.string.injEq] at h1 h2 h3 h4 h5
    rw [w_one (by omega), ← h1, ← h2, ← h3, ← h4, ← h5]
    exact Sy.plainO_leaf (List.mem_singleton_self _) rfl rfl

end Go.Proofs.YtlpcnaeknbmjdaaGreat
