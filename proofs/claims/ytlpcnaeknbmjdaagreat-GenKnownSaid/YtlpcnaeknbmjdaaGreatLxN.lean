/-
  The reference's lexer: numbers (of ten).
-/
import Derived.Test.YtlpcnaeknbmjdaaGreatLxW
namespace Go.Proofs.YtlpcnaeknbmjdaaGreat
set_option linter.unusedVariables false
set_option linter.unusedSimpArgs false
open Go Go.RowKit
open Sy (Let Blk)

abbrev fNumber : FuncId := 72
noncomputable def bodyN : Code := Sy.loopBody Tryz.f72 0

/-- It is no number of sixteen. -/
def OkH (u v : Value) : Prop := u = .bool false ∨ u = .bool true ∧ v = .bool false
noncomputable def hxS (u v : Value) : Sem Next := do pure (.value (if ← asBool u then v else .bool false))
noncomputable def hxK (a : Sy.F) (_ : List Sy.Blk) : Sy.OpK := ⟨hxS (a.get 28) (a.get 44), OkH (a.get 28) (a.get 44), ⟨⟨[], [], 0⟩, [(⟨fun _ => True, fun _ => []⟩, fun _ => some (.bool false))]⟩⟩
theorem hxK_meets (a : Sy.F) (L : List Sy.Blk) : (hxK a L).meets Tryz.prog := by
  rintro h W _
  refine ⟨_, List.mem_singleton_self _, [], W, ?_, rfl, trivial, rfl, rfl, rfl, Nat.le_refl _, fun _ _ _ => rfl, fun p hp => (by cases hp), List.nodup_nil⟩
  show (hxS (a.get 28) (a.get 44)).run Tryz.prog W = .ok (.value (.bool false)) W
  have h : OkH (a.get 28) (a.get 44) := h
  rcases h with h | ⟨h1, h2⟩
  · rw [h]; rfl
  · rw [h1, h2]; rfl

noncomputable def slN (gl m cl p6 k v : Nat) : List (Nat × Value) := [(0, .slice (some ⟨gl, 0, none⟩) m cl), (1, .int .i64 (Int.ofNat k)), (6, .pointer (some ⟨p6, 0, none⟩)), (8, .int .u64 10), (9, .int .u64 (Int.ofNat v)), (10, .bool false)]
noncomputable def ctxN : Sy.Ctx := Sy.mkS [(fSixteen, fun a _ => ruK sxC a), (fLetter, fun a _ => ruK ltC a), (fDigit, fun a _ => ruK dgC a)] [] []

def nuB_o : Sy.O := (Sy.O.steps [1, 0, 1, 1, 1, 1, 1, 1, 1, 0] (Sy.O.fork (Sy.O.steps [1, 0, 1, 1, 1, 1, 1, 1, 1, 0, 0, 0, 0, 0, 0, 0] Sy.O.nil) Sy.O.nil))
noncomputable def nuB_R (gl : Nat) (m : Nat) (cl : Nat) (p6 : Nat) (k : Nat) (v : Nat) (xs : List Value) (rest : List Value) (ns : Nat → Sy.Let) : Sy.Res (Exit × Nat × List Value × List Blk) := Sy.Res.need ((0 : Int) ≤ Int.ofNat k ∧ Int.ofNat k < (↑m : Int))
 (Sy.Res.need
 (∃ (i : Int),
 Sy.Cont.at (Sy.Cont.seg (0 : Nat) xs) ((0 : Nat) + Int.toNat (Int.ofNat k) * (5 : Nat)) =
 some (Value.int IntKind.i64 i))
 (Sy.Res.hyp
 (Sy.Cont.at (Sy.Cont.seg (0 : Nat) xs) ((0 : Nat) + Int.toNat (Int.ofNat k) * (5 : Nat)) =
 some (Value.int IntKind.i64 (Let.i (ns (0 : Nat)))))
 (Sy.Res.need
 (∃ (i : Int),
 Sy.Cont.at (Sy.Cont.seg (0 : Nat) xs) ((0 : Nat) + Int.toNat (Int.ofNat k) * (5 : Nat) + (1 : Nat)) =
 some (Value.int IntKind.i64 i))
 (Sy.Res.hyp
 (Sy.Cont.at (Sy.Cont.seg (0 : Nat) xs) ((0 : Nat) + Int.toNat (Int.ofNat k) * (5 : Nat) + (1 : Nat)) =
 some (Value.int IntKind.i64 (Let.i (ns (1 : Nat)))))
 (Sy.Res.need
 (∃ (i : Int),
 Sy.Cont.at (Sy.Cont.seg (0 : Nat) xs)
 ((0 : Nat) + Int.toNat (Int.ofNat k) * (5 : Nat) + (1 : Nat) + (1 : Nat)) =
 some (Value.int IntKind.i64 i))
 (Sy.Res.hyp
 (Sy.Cont.at (Sy.Cont.seg (0 : Nat) xs)
 ((0 : Nat) + Int.toNat (Int.ofNat k) * (5 : Nat) + (1 : Nat) + (1 : Nat)) =
 some (Value.int IntKind.i64 (Let.i (ns (2 : Nat)))))
 (Sy.Res.need
 (∃ (i : Int),
 Sy.Cont.at (Sy.Cont.seg (0 : Nat) xs)
 ((0 : Nat) + Int.toNat (Int.ofNat k) * (5 : Nat) + (1 : Nat) + (1 : Nat) + (1 : Nat)) =
 some (Value.int IntKind.i64 i))
 (Sy.Res.hyp
 (Sy.Cont.at (Sy.Cont.seg (0 : Nat) xs)
 ((0 : Nat) + Int.toNat (Int.ofNat k) * (5 : Nat) + (1 : Nat) + (1 : Nat) + (1 : Nat)) =
 some (Value.int IntKind.i64 (Let.i (ns (3 : Nat)))))
 (Sy.Res.need
 (∃ (i : Int),
 Sy.Cont.at (Sy.Cont.seg (0 : Nat) xs)
 ((0 : Nat) + Int.toNat (Int.ofNat k) * (5 : Nat) + (1 : Nat) + (1 : Nat) + (1 : Nat) +
 (1 : Nat)) =
 some (Value.int IntKind.i64 i))
 (Sy.Res.hyp
 (Sy.Cont.at (Sy.Cont.seg (0 : Nat) xs)
 ((0 : Nat) + Int.toNat (Int.ofNat k) * (5 : Nat) + (1 : Nat) + (1 : Nat) + (1 : Nat) +
 (1 : Nat)) =
 some (Value.int IntKind.i64 (Let.i (ns (4 : Nat)))))
 (Sy.Res.need True
 (Sy.Res.hyp True
 (Sy.Res.br
 (Ex.ltQ (Ex.wrapQ IntKind.u64 (sxF (Let.i (ns (0 : Nat))) (Let.i (ns (2 : Nat)))))
 (10 : Int))
 (Sy.Res.need ((0 : Int) ≤ Int.ofNat k ∧ Int.ofNat k < (↑m : Int))
 (Sy.Res.need
 (∃ (i : Int),
 Sy.Cont.at (Sy.Cont.seg (0 : Nat) xs)
 ((0 : Nat) + Int.toNat (Int.ofNat k) * (5 : Nat)) =
 some (Value.int IntKind.i64 i))
 (Sy.Res.hyp
 (Sy.Cont.at (Sy.Cont.seg (0 : Nat) xs)
 ((0 : Nat) + Int.toNat (Int.ofNat k) * (5 : Nat)) =
 some (Value.int IntKind.i64 (Let.i (ns (5 : Nat)))))
 (Sy.Res.need
 (∃ (i : Int),
 Sy.Cont.at (Sy.Cont.seg (0 : Nat) xs)
 ((0 : Nat) + Int.toNat (Int.ofNat k) * (5 : Nat) + (1 : Nat)) =
 some (Value.int IntKind.i64 i))
 (Sy.Res.hyp
 (Sy.Cont.at (Sy.Cont.seg (0 : Nat) xs)
 ((0 : Nat) + Int.toNat (Int.ofNat k) * (5 : Nat) + (1 : Nat)) =
 some (Value.int IntKind.i64 (Let.i (ns (6 : Nat)))))
 (Sy.Res.need
 (∃ (i : Int),
 Sy.Cont.at (Sy.Cont.seg (0 : Nat) xs)
 ((0 : Nat) + Int.toNat (Int.ofNat k) * (5 : Nat) + (1 : Nat) +
 (1 : Nat)) =
 some (Value.int IntKind.i64 i))
 (Sy.Res.hyp
 (Sy.Cont.at (Sy.Cont.seg (0 : Nat) xs)
 ((0 : Nat) + Int.toNat (Int.ofNat k) * (5 : Nat) + (1 : Nat) +
 (1 : Nat)) =
 some (Value.int IntKind.i64 (Let.i (ns (7 : Nat)))))
 (Sy.Res.need
 (∃ (i : Int),
 Sy.Cont.at (Sy.Cont.seg (0 : Nat) xs)
 ((0 : Nat) + Int.toNat (Int.ofNat k) * (5 : Nat) + (1 : Nat) +
 (1 : Nat) +
 (1 : Nat)) =
 some (Value.int IntKind.i64 i))
 (Sy.Res.hyp
 (Sy.Cont.at (Sy.Cont.seg (0 : Nat) xs)
 ((0 : Nat) + Int.toNat (Int.ofNat k) * (5 : Nat) + (1 : Nat) +
 (1 : Nat) +
 (1 : Nat)) =
 some (Value.int IntKind.i64 (Let.i (ns (8 : Nat)))))
 (Sy.Res.need
 (∃ (i : Int),
 Sy.Cont.at (Sy.Cont.seg (0 : Nat) xs)
 ((0 : Nat) + Int.toNat (Int.ofNat k) * (5 : Nat) + (1 : Nat) +
 (1 : Nat) +
 (1 : Nat) +
 (1 : Nat)) =
 some (Value.int IntKind.i64 i))
 (Sy.Res.hyp
 (Sy.Cont.at (Sy.Cont.seg (0 : Nat) xs)
 ((0 : Nat) + Int.toNat (Int.ofNat k) * (5 : Nat) + (1 : Nat) +
 (1 : Nat) +
 (1 : Nat) +
 (1 : Nat)) =
 some (Value.int IntKind.i64 (Let.i (ns (9 : Nat)))))
 (Sy.Res.need True
 (Sy.Res.hyp True
 (Sy.Res.leaf
 (Exit.normal, (118 : Nat),
 [Value.slice (some (Addr.mk gl (0 : Nat) none)) m cl,
 Value.int IntKind.i64
 (Ex.wrapQ IntKind.i64 (Ex.addQ (Int.ofNat k) (1 : Int))),
 Value.pointer (some (Addr.mk p6 (0 : Nat) none)),
 Value.int IntKind.u64 (10 : Int),
 Value.int IntKind.u64
 (Ex.wrapQ IntKind.u64
 (Ex.addQ
 (Ex.wrapQ IntKind.u64
 (Ex.mulQ (Int.ofNat v) (10 : Int)))
 (Ex.wrapQ IntKind.u64
 (sxF (Let.i (ns (5 : Nat)))
 (Let.i (ns (7 : Nat))))))),
 Value.bool
 (bif false then true
 else
 Ex.ltQ
 (Ex.wrapQ IntKind.u64
 (Ex.quoQ
 (Ex.wrapQ IntKind.u64
 (Ex.subQ' (18446744073709551615 : Int)
 (Ex.wrapQ IntKind.u64
 (sxF (Let.i (ns (5 : Nat)))
 (Let.i (ns (7 : Nat)))))))
 (nat_lit 10)))
 (Int.ofNat v))],
 [Blk.mk gl (Sy.Cont.seg (0 : Nat) xs) false])))))))))))))))
 (Sy.Res.leaf
 (Exit.exit (0 : Nat), (118 : Nat),
 [Value.slice (some (Addr.mk gl (0 : Nat) none)) m cl,
 Value.int IntKind.i64 (Int.ofNat k), Value.pointer (some (Addr.mk p6 (0 : Nat) none)),
 Value.int IntKind.u64 (10 : Int), Value.int IntKind.u64 (Int.ofNat v),
 Value.bool false],
 [Blk.mk gl (Sy.Cont.seg (0 : Nat) xs) false])))))))))))))))
theorem nuB_run (gl m cl p6 k v : Nat) (xs : List Value) (rest : List Value) : Sy.Ran (Sy.pieceT Tryz.prog ctxN 50 fNumber bodyN 118 (slN gl m cl p6 k v) rest [⟨gl, .seg 0 xs, false⟩] [0, 1, 6, 8, 9, 10]) nuB_o (nuB_R gl m cl p6 k v xs rest) := ⟨fun ns => by kernel_rfl, fun ns => by kernel_rfl⟩

def bigN : Nat := 1000000000000000000
theorem bigN_eq : bigN = 1000000000000000000 := rfl

/-- The digits of a number that is not too great: how many, and its value. -/
noncomputable def numF (l : List Ru) : Nat → Option (Nat × Nat) := @List.rec Ru (fun _ => Nat → Option (Nat × Nat)) (fun _ => none) (fun x _ ih v => match dgF (Int.ofNat x.r) (Int.ofNat x.n) with
  | true => match Nat.blt (Nat.add (Nat.mul v 10) (Nat.sub x.r 48)) bigN with
    | true => match ih (Nat.add (Nat.mul v 10) (Nat.sub x.r 48)) with
      | some (m, u) => some (Nat.succ m, u)
      | none => none
    | false => none
  | false => some (0, v)) l

theorem numF_cons (x : Ru) (r : List Ru) (v : Nat) : numF (x :: r) v = match dgF (Int.ofNat x.r) (Int.ofNat x.n) with
  | true => match Nat.blt (Nat.add (Nat.mul v 10) (Nat.sub x.r 48)) bigN with
    | true => match numF r (Nat.add (Nat.mul v 10) (Nat.sub x.r 48)) with
      | some (m, u) => some (Nat.succ m, u)
      | none => none
    | false => none
  | false => some (0, v) := by kernel_rfl

theorem Tx.small_r {bs n l} (h : Tx bs n l) {k : Nat} {x : Ru} (hx : l[k]? = some x) : x.r < 128 ∧ x.n < 2 := by
  have hk : k ≤ n := by
    have := (List.getElem?_eq_some_iff.1 hx).1
    rw [h.len] at this
    omega
  obtain ⟨y, hy, -, hc⟩ := h.get hk
  rw [hx] at hy
  injection hy with hy
  subst hy
  rcases hc with ⟨h1, h2, h3⟩ | ⟨h1, h2, h3⟩
  · exact ⟨h.asc _ (List.mem_of_getElem? h2), by omega⟩
  · exact ⟨by omega, by omega⟩

theorem dg_iff (r n : Nat) : dgF (Int.ofNat r) (Int.ofNat n) = true ↔ 0 < n ∧ 48 ≤ r ∧ r ≤ 57 := by
  simp only [dgF, Sy.b_and, Sy.q_lt, Sy.q_le]
  show ((0 : Int) < (n : Int) ∧ (48 : Int) ≤ (r : Int)) ∧ (r : Int) ≤ 57 ↔ _
  omega

theorem sx_dg {r n : Nat} (h : r < 128) (hd : dgF (Int.ofNat r) (Int.ofNat n) = true) : Ex.wrapQ .u64 (sxF (Int.ofNat r) (Int.ofNat n)) = ((r - 48 : Nat) : Int) := by
  unfold sxF
  rw [hd]
  obtain ⟨h1, h2, h3⟩ := (dg_iff r n).1 hd
  show Ex.wrapQ .u64 (Ex.wrapQ .i64 (Ex.subQ' (r : Int) 48)) = _
  rw [Ex.wrapQ_eq, Ex.wrapQ_eq, Ex.subQ_eq]
  simp [IntKind.wrap, IntKind.signed, IntKind.bits]
  omega

theorem sx_no {r n : Nat} (h : r < 128) (hd : dgF (Int.ofNat r) (Int.ofNat n) = false) : ¬ Ex.wrapQ .u64 (sxF (Int.ofNat r) (Int.ofNat n)) < 10 := by
  unfold sxF
  rw [hd]
  simp only [cond_false]
  have w87 : (bif (bif Ex.ltQ 0 (Int.ofNat n) then Ex.leQ 97 (Int.ofNat r) else false) then Ex.leQ (Int.ofNat r) 102 else false) = true → Ex.wrapQ .u64 (Ex.wrapQ .i64 (Ex.subQ' (Int.ofNat r) 87)) = ((r - 87 : Nat) : Int) ∧ 97 ≤ r := fun hc => by
    simp only [Sy.b_and, Sy.q_lt, Sy.q_le] at hc
    have h2 : (97 : Int) ≤ (r : Int) := hc.1.2
    rw [Ex.wrapQ_eq, Ex.wrapQ_eq, Ex.subQ_eq]
    show IntKind.u64.wrap (IntKind.i64.wrap ((r : Int) - 87)) = _ ∧ _
    simp [IntKind.wrap, IntKind.signed, IntKind.bits]
    omega
  have w55 : (bif (bif Ex.ltQ 0 (Int.ofNat n) then Ex.leQ 65 (Int.ofNat r) else false) then Ex.leQ (Int.ofNat r) 70 else false) = true → Ex.wrapQ .u64 (Ex.wrapQ .i64 (Ex.subQ' (Int.ofNat r) 55)) = ((r - 55 : Nat) : Int) ∧ 65 ≤ r := fun hc => by
    simp only [Sy.b_and, Sy.q_lt, Sy.q_le] at hc
    have h2 : (65 : Int) ≤ (r : Int) := hc.1.2
    rw [Ex.wrapQ_eq, Ex.wrapQ_eq, Ex.subQ_eq]
    show IntKind.u64.wrap (IntKind.i64.wrap ((r : Int) - 55)) = _ ∧ _
    simp [IntKind.wrap, IntKind.signed, IntKind.bits]
    omega
  cases h1 : (bif (bif Ex.ltQ 0 (Int.ofNat n) then Ex.leQ 97 (Int.ofNat r) else false) then Ex.leQ (Int.ofNat r) 102 else false) with
  | true =>
    obtain ⟨e, h2⟩ := w87 h1
    rw [cond_true, e]
    omega
  | false =>
    rw [cond_false]
    cases h3 : (bif (bif Ex.ltQ 0 (Int.ofNat n) then Ex.leQ 65 (Int.ofNat r) else false) then Ex.leQ (Int.ofNat r) 70 else false) with
    | true =>
      obtain ⟨e, h2⟩ := w55 h3
      rw [cond_true, e]
      omega
    | false =>
      rw [cond_false, Ex.wrapQ_eq]
      simp [IntKind.wrap, IntKind.signed, IntKind.bits]

noncomputable def loopN (n gl cl k0 : Nat) (bs : List Nat) (l : List Ru) (m v p6 : Nat) : Sy.LoopC :=
  ⟨.loop bodyN, 118, slN gl (n + 1) cl p6 k0 0, Tx bs n l ∧ k0 ≤ n ∧ numF (l.drop k0) 0 = some (m, v), ⟨[(gl, .seg 0 (ruCells l))], [], 0⟩,
    [(⟨fun _ => k0 + m ≤ n, fun _ => []⟩, .exit 0, fun _ => slN gl (n + 1) cl p6 (k0 + m) v)]⟩

theorem ctxN_holds : ctxN.holds Tryz.prog := Sy.mkS_holds (fun p hp a L => by
  rcases List.mem_cons.1 hp with rfl | hp
  · exact ruK_met sxC_met a
  rcases List.mem_cons.1 hp with rfl | hp
  · exact ruK_met ltC_met a
  rcases List.mem_singleton.1 hp with rfl
  exact ruK_met dgC_met a) (fun _ h => (by cases h)) (fun _ h => (by cases h))

/-- The loop's state. -/
structure Ns where
  k : Nat
  v : Nat

theorem loopN_met (n gl cl k0 : Nat) (bs : List Nat) (l : List Ru) (m v p6 : Nat) : Sy.MeetsL Tryz.prog (loopN n gl cl k0 bs l m v p6) := by
  refine Sy.loop_of (n := 50) (fn := fNumber) ctxN_holds mixed (body := bodyN) rfl [0, 1, 6, 8, 9, 10] (fun s : Ns => slN gl (n + 1) cl p6 s.k s.v) (fun _ => [⟨gl, .seg 0 (ruCells l), false⟩])
    (fun s => s.k ≤ n ∧ s.v < bigN ∧ Tx bs n l ∧ ∃ m', numF (l.drop s.k) s.v = some (m', v) ∧ s.k + m' = k0 + m) (fun s => n - s.k)
    ⟨k0, 0⟩ (fun h => ⟨h.2.1, by show 0 < bigN; decide, h.1, m, h.2.2, rfl⟩) (fun p hp => hp) [0] (by decide) rfl (o := fun _ => nuB_o) (R := fun s xs => nuB_R gl (n + 1) cl p6 s.k s.v (ruCells l) xs) (fun s xs _ => nuB_run gl (n + 1) cl p6 s.k s.v (ruCells l) xs) ?_
  rintro - ⟨k, u⟩ rest ⟨hk, hu, hT, m', hm, he⟩ ns
  have hk : k ≤ n := hk
  have hu : u < bigN := hu
  have hm : numF (l.drop k) u = some (m', v) := hm
  have he : k + m' = k0 + m := he
  obtain ⟨x, hx, hat, hc⟩ := hT.get hk
  obtain ⟨hr, hn2⟩ := hT.small_r hx
  obtain ⟨a0, a1, a2, a3, a4⟩ := ru_at hx
  have hlt : k < l.length := by rw [hT.len]; omega
  have hxe : l[k] = x := by rw [List.getElem?_eq_getElem hlt] at hx; injection hx
  rw [List.drop_eq_getElem_cons hlt, hxe, numF_cons] at hm
  have hsm := hT.small
  simp only [nuB_R, Sy.Res.holds, show Int.toNat (Int.ofNat k) = k from rfl, a0, a1, a2, a3, a4, Option.some.injEq, Value.int.injEq, true_and, exists_eq', Sy.q_lt, Sy.b_f]
  have hr0 : (0 : Int) ≤ Int.ofNat k ∧ Int.ofNat k < ((n + 1 : Nat) : Int) := ⟨Int.natCast_nonneg k, by show (k : Int) < _; omega⟩
  refine ⟨hr0, fun h0 h1 h2 h3 h4 _ => ?_⟩
  rw [← h0, ← h2]
  cases hd : dgF (Int.ofNat x.r) (Int.ofNat x.n) with
  | true =>
    rw [hd] at hm
    have hs := sx_dg hr hd
    obtain ⟨d1, d2, d3⟩ := (dg_iff _ _).1 hd
    have hkn : k < n := by
      rcases hc with ⟨h, -⟩ | ⟨-, -, h⟩
      · exact h
      · omega
    simp only at hm
    cases hb : Nat.blt (Nat.add (Nat.mul u 10) (Nat.sub x.r 48)) bigN with
    | false => rw [hb] at hm; cases hm
    | true =>
      rw [hb] at hm
      have hb' : u * 10 + (x.r - 48) < bigN := by simpa using hb
      have hbe := bigN_eq
      simp only at hm
      cases hnx : numF (l.drop (k + 1)) (Nat.add (Nat.mul u 10) (Nat.sub x.r 48)) with
      | none => rw [hnx] at hm; cases hm
      | some q =>
        obtain ⟨m2, u2⟩ := q
        rw [hnx] at hm
        simp only [Option.some.injEq, Prod.mk.injEq] at hm
        obtain ⟨e1, e2⟩ := hm
        rw [hs]
        refine ⟨fun _ => ⟨hr0, fun h5 h6 h7 h8 h9 _ => ?_⟩, fun hno => (hno (by omega)).elim⟩
        rw [← h5, ← h7, hs]
        refine Sy.leafL_next ⟨k + 1, u * 10 + (x.r - 48)⟩ rfl ⟨by show k + 1 ≤ n; omega, hb', hT, m2, by rw [← e2]; exact hnx, by show k + 1 + m2 = k0 + m; omega⟩ (by show n - (k + 1) < n - k; omega) ?_ [0] (by decide) rfl
        have w1 : Ex.wrapQ .u64 (Ex.addQ (Ex.wrapQ .u64 (Ex.mulQ (Int.ofNat u) 10)) ((x.r - 48 : Nat) : Int)) = Int.ofNat (u * 10 + (x.r - 48)) := by
          rw [Ex.wrapQ_eq, Ex.addQ_eq, Ex.wrapQ_eq, Ex.mulQ_eq]
          show IntKind.u64.wrap (IntKind.u64.wrap ((u : Int) * 10) + ((x.r - 48 : Nat) : Int)) = ((u * 10 + (x.r - 48) : Nat) : Int)
          simp [IntKind.wrap, IntKind.signed, IntKind.bits]
          omega
        have w2 : Ex.ltQ (Ex.wrapQ .u64 (Ex.quoQ (Ex.wrapQ .u64 (Ex.subQ' 18446744073709551615 ((x.r - 48 : Nat) : Int))) 10)) (Int.ofNat u) = false := by
          cases hq : Ex.ltQ (Ex.wrapQ .u64 (Ex.quoQ (Ex.wrapQ .u64 (Ex.subQ' 18446744073709551615 ((x.r - 48 : Nat) : Int))) 10)) (Int.ofNat u) with
          | false => rfl
          | true =>
            rw [Sy.q_lt] at hq
            have e3 : Ex.wrapQ .u64 (Ex.subQ' 18446744073709551615 ((x.r - 48 : Nat) : Int)) = ((18446744073709551615 - (x.r - 48) : Nat) : Int) := by
              rw [Ex.wrapQ_eq, Ex.subQ_eq]
              simp [IntKind.wrap, IntKind.signed, IntKind.bits]
              omega
            rw [e3, Ex.wrapQ_eq, Ex.quoQ_eq] at hq
            have e4 : Int.tdiv ((18446744073709551615 - (x.r - 48) : Nat) : Int) 10 = (((18446744073709551615 - (x.r - 48)) / 10 : Nat) : Int) := rfl
            have hq : IntKind.u64.wrap (Int.tdiv ((18446744073709551615 - (x.r - 48) : Nat) : Int) 10) < (u : Int) := hq
            rw [e4] at hq
            simp [IntKind.wrap, IntKind.signed, IntKind.bits] at hq
            omega
        rw [w1, w_inc (by omega), w2]
        rfl
  | false =>
    rw [hd] at hm
    simp only [Option.some.injEq, Prod.mk.injEq] at hm
    obtain ⟨rfl, rfl⟩ := hm
    refine ⟨fun hlt => (sx_no hr hd hlt).elim, fun _ => ?_⟩
    refine Sy.leafL_end 0 rfl rfl (by simp) rfl [] rfl [0, 1, 2, 3, 4, 5] ?_ [] (by decide) trivial (by show k0 + m ≤ n; omega)
    show slN gl (n + 1) cl p6 (k0 + m) u = _
    rw [← he]
    rfl

def ltNo (r a n l c : Int) : Sy.CallC := ⟨fLetter, #[ruV r a n l c], ltF r n = false, ⟨[], [], 0⟩, [Sy.plainO (.bool false)]⟩
def dgNo (r a n l c : Int) : Sy.CallC := ⟨fDigit, #[ruV r a n l c], dgF r n = false, ⟨[], [], 0⟩, [Sy.plainO (.bool false)]⟩
theorem ltNo_met (r a n l c : Int) : Sy.Meets Tryz.prog (ltNo r a n l c) := by
  intro h W hpre
  have := ltC_met r a n l c trivial W ⟨fun _ h => (by cases h), fun _ h => (by cases h), List.nodup_nil, fun _ h => (by cases h)⟩
  unfold ltC ruC at this
  rw [show ltF r n = false from h] at this
  exact this
theorem dgNo_met (r a n l c : Int) : Sy.Meets Tryz.prog (dgNo r a n l c) := by
  intro h W hpre
  have := dgC_met r a n l c trivial W ⟨fun _ h => (by cases h), fun _ h => (by cases h), List.nodup_nil, fun _ h => (by cases h)⟩
  unfold dgC ruC at this
  rw [show dgF r n = false from h] at this
  exact this

noncomputable def nuC (n gl cl k : Nat) (bs : List Nat) (l : List Ru) (m v : Nat) : Sy.CallC :=
  ⟨fNumber, #[.slice (some ⟨gl, 0, none⟩) (n + 1) cl, .int .i64 (Int.ofNat k)], Tx bs n l ∧ k < n ∧ (∀ x y, l[k]? = some x → l[k + 1]? = some y → ¬ (x.r = 48 ∧ 0 < y.n ∧ (y.r = 120 ∨ y.r = 88))) ∧ numF (l.drop k) 0 = some (m, v) ∧ (∀ x, l[k + m]? = some x → ltF (Int.ofNat x.r) (Int.ofNat x.n) = false ∧ dgF (Int.ofNat x.r) (Int.ofNat x.n) = false),
    ⟨[(gl, .seg 0 (ruCells l))], [], 0⟩, [Sy.plainO (.tuple #[.int .u64 (Int.ofNat v), .int .i64 (Int.ofNat (k + m)), .agg #[.int .i64 0, .int .i64 0, .int .i64 0]])]⟩
noncomputable def ctxNu (n gl cl k : Nat) (bs : List Nat) (l : List Ru) (m v : Nat) : Sy.Ctx := Sy.mkS [(fSixteen, fun a _ => ruK sxC a), (fLetter, fun a _ => ruK ltNo a), (fDigit, fun a _ => ruK dgNo a)] [(fNumber, fun a _ => loopN n gl cl k bs l m v (Sy.ptrN (a.get 6)))] [(fNumber, 45, fun a L => hxK a L)]
def nu_o : Sy.O := (Sy.O.steps [1, 1, 1, 1, 1] (Sy.O.fork (Sy.O.steps [0, 0, 0, 1, 0, 0, 1, 1, 1, 1, 0] (Sy.O.fork (Sy.O.steps [0, 0, 0, 1, 0, 0, 1, 1, 1, 1, 0, 0] (Sy.O.fork (Sy.O.steps [0, 0, 0, 0, 0, 0, 0, 0, 0, 0, 1, 0, 1, 0, 1, 1, 1, 1, 1, 1, 1, 0, 0, 0, 0, 1, 0, 0, 1, 1, 1, 1, 1, 1, 1, 0, 0, 0, 0, 1, 0, 1, 0] Sy.O.nil) (Sy.O.steps [0, 0, 0, 1, 0, 0, 1, 1, 1, 1, 0, 0, 0, 0, 0, 1, 0, 1, 0, 1, 1, 1, 1, 1, 1, 1, 0, 0, 0, 0, 1, 0, 0, 1, 1, 1, 1, 1, 1, 1, 0, 0, 0, 0, 1, 0, 1, 0] Sy.O.nil))) (Sy.O.steps [0, 0, 0, 0, 0, 0, 0, 0, 0, 0, 0, 1, 0, 1, 0, 1, 1, 1, 1, 1, 1, 1, 0, 0, 0, 0, 1, 0, 0, 1, 1, 1, 1, 1, 1, 1, 0, 0, 0, 0, 1, 0, 1, 0] Sy.O.nil))) (Sy.O.steps [0, 0, 0, 0, 0, 0, 0, 0, 0, 0, 0, 0, 0, 0, 0, 0, 0, 0, 1, 0, 1, 0, 1, 1, 1, 1, 1, 1, 1, 0, 0, 0, 0, 1, 0, 0, 1, 1, 1, 1, 1, 1, 1, 0, 0, 0, 0, 1, 0, 1, 0] Sy.O.nil)))
noncomputable def nu_R (n : Nat) (gl : Nat) (cl : Nat) (k : Nat) (bs : List Nat) (l : List Ru) (m : Nat) (v : Nat) (ns : Nat → Sy.Let) : Sy.Res (Value × List Blk) := Sy.Res.need ((0 : Int) ≤ Int.ofNat k ∧ Int.ofNat k < (↑(n + (1 : Nat)) : Int))
 (Sy.Res.need
 (∃ (i : Int),
 Sy.Cont.at (Sy.Cont.seg (0 : Nat) (ruCells l))
 (Nat.add ((0 : Nat) + Int.toNat (Int.ofNat k) * (5 : Nat)) (0 : Nat)) =
 some (Value.int IntKind.i64 i))
 (Sy.Res.hyp
 (Sy.Cont.at (Sy.Cont.seg (0 : Nat) (ruCells l))
 (Nat.add ((0 : Nat) + Int.toNat (Int.ofNat k) * (5 : Nat)) (0 : Nat)) =
 some (Value.int IntKind.i64 (Let.i (ns (1 : Nat)))))
 (Sy.Res.br (Ex.eqQ (Let.i (ns (1 : Nat))) (48 : Int))
 (Sy.Res.need
 ((0 : Int) ≤ Ex.wrapQ IntKind.i64 (Ex.addQ (Int.ofNat k) (1 : Int)) ∧
 Ex.wrapQ IntKind.i64 (Ex.addQ (Int.ofNat k) (1 : Int)) < (↑(n + (1 : Nat)) : Int))
 (Sy.Res.need
 (∃ (i : Int),
 Sy.Cont.at (Sy.Cont.seg (0 : Nat) (ruCells l))
 (Nat.succ
 (Nat.succ
 ((0 : Nat) + Int.toNat (Ex.wrapQ IntKind.i64 (Ex.addQ (Int.ofNat k) (1 : Int))) * (5 : Nat)))) =
 some (Value.int IntKind.i64 i))
 (Sy.Res.hyp
 (Sy.Cont.at (Sy.Cont.seg (0 : Nat) (ruCells l))
 (Nat.succ
 (Nat.succ
 ((0 : Nat) + Int.toNat (Ex.wrapQ IntKind.i64 (Ex.addQ (Int.ofNat k) (1 : Int))) * (5 : Nat)))) =
 some (Value.int IntKind.i64 (Let.i (ns (2 : Nat)))))
 (Sy.Res.br (bif true then Ex.ltQ (0 : Int) (Let.i (ns (2 : Nat))) else false)
 (Sy.Res.need
 ((0 : Int) ≤ Ex.wrapQ IntKind.i64 (Ex.addQ (Int.ofNat k) (1 : Int)) ∧
 Ex.wrapQ IntKind.i64 (Ex.addQ (Int.ofNat k) (1 : Int)) < (↑(n + (1 : Nat)) : Int))
 (Sy.Res.need
 (∃ (i : Int),
 Sy.Cont.at (Sy.Cont.seg (0 : Nat) (ruCells l))
 (Nat.add
 ((0 : Nat) + Int.toNat (Ex.wrapQ IntKind.i64 (Ex.addQ (Int.ofNat k) (1 : Int))) * (5 : Nat))
 (0 : Nat)) =
 some (Value.int IntKind.i64 i))
 (Sy.Res.hyp
 (Sy.Cont.at (Sy.Cont.seg (0 : Nat) (ruCells l))
 (Nat.add
 ((0 : Nat) + Int.toNat (Ex.wrapQ IntKind.i64 (Ex.addQ (Int.ofNat k) (1 : Int))) * (5 : Nat))
 (0 : Nat)) =
 some (Value.int IntKind.i64 (Let.i (ns (3 : Nat)))))
 (Sy.Res.br (Ex.eqQ (Let.i (ns (3 : Nat))) (120 : Int))
 (Sy.Res.need
 (Value.bool true = Value.bool false ∨
 Value.bool true = Value.bool true ∧ Value.bool true = Value.bool false)
 (Sy.Res.hyp True
 (Sy.Res.need (Tx bs n l ∧ k ≤ n ∧ numF (List.drop k l) (0 : Nat) = some (m, v))
 (Sy.Res.hyp (Nat.le (k + m) n)
 (Sy.Res.need
 ((0 : Int) ≤ Int.ofNat (k + m) ∧ Int.ofNat (k + m) < (↑(n + (1 : Nat)) : Int))
 (Sy.Res.need
 (∃ (i : Int),
 Sy.Cont.at (Sy.Cont.seg (0 : Nat) (ruCells l))
 ((0 : Nat) + Int.toNat (Int.ofNat (k + m)) * (5 : Nat)) =
 some (Value.int IntKind.i64 i))
 (Sy.Res.hyp
 (Sy.Cont.at (Sy.Cont.seg (0 : Nat) (ruCells l))
 ((0 : Nat) + Int.toNat (Int.ofNat (k + m)) * (5 : Nat)) =
 some (Value.int IntKind.i64 (Let.i (ns (5 : Nat)))))
 (Sy.Res.need
 (∃ (i : Int),
 Sy.Cont.at (Sy.Cont.seg (0 : Nat) (ruCells l))
 ((0 : Nat) + Int.toNat (Int.ofNat (k + m)) * (5 : Nat) + (1 : Nat)) =
 some (Value.int IntKind.i64 i))
 (Sy.Res.hyp
 (Sy.Cont.at (Sy.Cont.seg (0 : Nat) (ruCells l))
 ((0 : Nat) + Int.toNat (Int.ofNat (k + m)) * (5 : Nat) + (1 : Nat)) =
 some (Value.int IntKind.i64 (Let.i (ns (6 : Nat)))))
 (Sy.Res.need
 (∃ (i : Int),
 Sy.Cont.at (Sy.Cont.seg (0 : Nat) (ruCells l))
 ((0 : Nat) + Int.toNat (Int.ofNat (k + m)) * (5 : Nat) + (1 : Nat) +
 (1 : Nat)) =
 some (Value.int IntKind.i64 i))
 (Sy.Res.hyp
 (Sy.Cont.at (Sy.Cont.seg (0 : Nat) (ruCells l))
 ((0 : Nat) + Int.toNat (Int.ofNat (k + m)) * (5 : Nat) + (1 : Nat) +
 (1 : Nat)) =
 some (Value.int IntKind.i64 (Let.i (ns (7 : Nat)))))
 (Sy.Res.need
 (∃ (i : Int),
 Sy.Cont.at (Sy.Cont.seg (0 : Nat) (ruCells l))
 ((0 : Nat) + Int.toNat (Int.ofNat (k + m)) * (5 : Nat) +
 (1 : Nat) +
 (1 : Nat) +
 (1 : Nat)) =
 some (Value.int IntKind.i64 i))
 (Sy.Res.hyp
 (Sy.Cont.at (Sy.Cont.seg (0 : Nat) (ruCells l))
 ((0 : Nat) + Int.toNat (Int.ofNat (k + m)) * (5 : Nat) +
 (1 : Nat) +
 (1 : Nat) +
 (1 : Nat)) =
 some (Value.int IntKind.i64 (Let.i (ns (8 : Nat)))))
 (Sy.Res.need
 (∃ (i : Int),
 Sy.Cont.at (Sy.Cont.seg (0 : Nat) (ruCells l))
 ((0 : Nat) + Int.toNat (Int.ofNat (k + m)) * (5 : Nat) +
 (1 : Nat) +
 (1 : Nat) +
 (1 : Nat) +
 (1 : Nat)) =
 some (Value.int IntKind.i64 i))
 (Sy.Res.hyp
 (Sy.Cont.at (Sy.Cont.seg (0 : Nat) (ruCells l))
 ((0 : Nat) + Int.toNat (Int.ofNat (k + m)) * (5 : Nat) +
 (1 : Nat) +
 (1 : Nat) +
 (1 : Nat) +
 (1 : Nat)) =
 some (Value.int IntKind.i64 (Let.i (ns (9 : Nat)))))
 (Sy.Res.need
 (ltF (Let.i (ns (5 : Nat))) (Let.i (ns (7 : Nat))) = false)
 (Sy.Res.hyp True
 (Sy.Res.need
 ((0 : Int) ≤ Int.ofNat (k + m) ∧
 Int.ofNat (k + m) < (↑(n + (1 : Nat)) : Int))
 (Sy.Res.need
 (∃ (i : Int),
 Sy.Cont.at (Sy.Cont.seg (0 : Nat) (ruCells l))
 ((0 : Nat) +
 Int.toNat (Int.ofNat (k + m)) * (5 : Nat)) =
 some (Value.int IntKind.i64 i))
 (Sy.Res.hyp
 (Sy.Cont.at (Sy.Cont.seg (0 : Nat) (ruCells l))
 ((0 : Nat) +
 Int.toNat (Int.ofNat (k + m)) * (5 : Nat)) =
 some (Value.int IntKind.i64 (Let.i (ns (10 : Nat)))))
 (Sy.Res.need
 (∃ (i : Int),
 Sy.Cont.at (Sy.Cont.seg (0 : Nat) (ruCells l))
 ((0 : Nat) +
 Int.toNat (Int.ofNat (k + m)) * (5 : Nat) +
 (1 : Nat)) =
 some (Value.int IntKind.i64 i))
 (Sy.Res.hyp
 (Sy.Cont.at (Sy.Cont.seg (0 : Nat) (ruCells l))
 ((0 : Nat) +
 Int.toNat (Int.ofNat (k + m)) * (5 : Nat) +
 (1 : Nat)) =
 some
 (Value.int IntKind.i64 (Let.i (ns (11 : Nat)))))
 (Sy.Res.need
 (∃ (i : Int),
 Sy.Cont.at (Sy.Cont.seg (0 : Nat) (ruCells l))
 ((0 : Nat) +
 Int.toNat (Int.ofNat (k + m)) *
 (5 : Nat) +
 (1 : Nat) +
 (1 : Nat)) =
 some (Value.int IntKind.i64 i))
 (Sy.Res.hyp
 (Sy.Cont.at (Sy.Cont.seg (0 : Nat) (ruCells l))
 ((0 : Nat) +
 Int.toNat (Int.ofNat (k + m)) *
 (5 : Nat) +
 (1 : Nat) +
 (1 : Nat)) =
 some
 (Value.int IntKind.i64
 (Let.i (ns (12 : Nat)))))
 (Sy.Res.need
 (∃ (i : Int),
 Sy.Cont.at
 (Sy.Cont.seg (0 : Nat) (ruCells l))
 ((0 : Nat) +
 Int.toNat (Int.ofNat (k + m)) *
 (5 : Nat) +
 (1 : Nat) +
 (1 : Nat) +
 (1 : Nat)) =
 some (Value.int IntKind.i64 i))
 (Sy.Res.hyp
 (Sy.Cont.at
 (Sy.Cont.seg (0 : Nat) (ruCells l))
 ((0 : Nat) +
 Int.toNat (Int.ofNat (k + m)) *
 (5 : Nat) +
 (1 : Nat) +
 (1 : Nat) +
 (1 : Nat)) =
 some
 (Value.int IntKind.i64
 (Let.i (ns (13 : Nat)))))
 (Sy.Res.need
 (∃ (i : Int),
 Sy.Cont.at
 (Sy.Cont.seg (0 : Nat) (ruCells l))
 ((0 : Nat) +
 Int.toNat
 (Int.ofNat (k + m)) *
 (5 : Nat) +
 (1 : Nat) +
 (1 : Nat) +
 (1 : Nat) +
 (1 : Nat)) =
 some (Value.int IntKind.i64 i))
 (Sy.Res.hyp
 (Sy.Cont.at
 (Sy.Cont.seg (0 : Nat) (ruCells l))
 ((0 : Nat) +
 Int.toNat
 (Int.ofNat (k + m)) *
 (5 : Nat) +
 (1 : Nat) +
 (1 : Nat) +
 (1 : Nat) +
 (1 : Nat)) =
 some
 (Value.int IntKind.i64
 (Let.i (ns (14 : Nat)))))
 (Sy.Res.need
 (dgF (Let.i (ns (10 : Nat)))
 (Let.i (ns (12 : Nat))) =
 false)
 (Sy.Res.hyp True
 (Sy.Res.leaf
 (Value.tuple
 (Array.mk
 [Value.int IntKind.u64
 (Int.ofNat v),
 Value.int IntKind.i64
 (Int.ofNat (k + m)),
 Value.agg
 (Array.mk
 [Value.int IntKind.i64
 (0 : Int),
 Value.int
 IntKind.i64
 (0 : Int),
 Value.int
 IntKind.i64
 (0 : Int)])]),
 []))))))))))))))))))))))))))))))))
 (Sy.Res.need
 ((0 : Int) ≤ Ex.wrapQ IntKind.i64 (Ex.addQ (Int.ofNat k) (1 : Int)) ∧
 Ex.wrapQ IntKind.i64 (Ex.addQ (Int.ofNat k) (1 : Int)) < (↑(n + (1 : Nat)) : Int))
 (Sy.Res.need
 (∃ (i : Int),
 Sy.Cont.at (Sy.Cont.seg (0 : Nat) (ruCells l))
 (Nat.add
 ((0 : Nat) +
 Int.toNat (Ex.wrapQ IntKind.i64 (Ex.addQ (Int.ofNat k) (1 : Int))) * (5 : Nat))
 (0 : Nat)) =
 some (Value.int IntKind.i64 i))
 (Sy.Res.hyp
 (Sy.Cont.at (Sy.Cont.seg (0 : Nat) (ruCells l))
 (Nat.add
 ((0 : Nat) +
 Int.toNat (Ex.wrapQ IntKind.i64 (Ex.addQ (Int.ofNat k) (1 : Int))) * (5 : Nat))
 (0 : Nat)) =
 some (Value.int IntKind.i64 (Let.i (ns (4 : Nat)))))
 (Sy.Res.need
 (Value.bool true = Value.bool false ∨
 Value.bool true = Value.bool true ∧
 Value.bool (bif false then true else Ex.eqQ (Let.i (ns (4 : Nat))) (88 : Int)) =
 Value.bool false)
 (Sy.Res.hyp True
 (Sy.Res.need (Tx bs n l ∧ k ≤ n ∧ numF (List.drop k l) (0 : Nat) = some (m, v))
 (Sy.Res.hyp (Nat.le (k + m) n)
 (Sy.Res.need
 ((0 : Int) ≤ Int.ofNat (k + m) ∧ Int.ofNat (k + m) < (↑(n + (1 : Nat)) : Int))
 (Sy.Res.need
 (∃ (i : Int),
 Sy.Cont.at (Sy.Cont.seg (0 : Nat) (ruCells l))
 ((0 : Nat) + Int.toNat (Int.ofNat (k + m)) * (5 : Nat)) =
 some (Value.int IntKind.i64 i))
 (Sy.Res.hyp
 (Sy.Cont.at (Sy.Cont.seg (0 : Nat) (ruCells l))
 ((0 : Nat) + Int.toNat (Int.ofNat (k + m)) * (5 : Nat)) =
 some (Value.int IntKind.i64 (Let.i (ns (6 : Nat)))))
 (Sy.Res.need
 (∃ (i : Int),
 Sy.Cont.at (Sy.Cont.seg (0 : Nat) (ruCells l))
 ((0 : Nat) + Int.toNat (Int.ofNat (k + m)) * (5 : Nat) +
 (1 : Nat)) =
 some (Value.int IntKind.i64 i))
 (Sy.Res.hyp
 (Sy.Cont.at (Sy.Cont.seg (0 : Nat) (ruCells l))
 ((0 : Nat) + Int.toNat (Int.ofNat (k + m)) * (5 : Nat) +
 (1 : Nat)) =
 some (Value.int IntKind.i64 (Let.i (ns (7 : Nat)))))
 (Sy.Res.need
 (∃ (i : Int),
 Sy.Cont.at (Sy.Cont.seg (0 : Nat) (ruCells l))
 ((0 : Nat) + Int.toNat (Int.ofNat (k + m)) * (5 : Nat) +
 (1 : Nat) +
 (1 : Nat)) =
 some (Value.int IntKind.i64 i))
 (Sy.Res.hyp
 (Sy.Cont.at (Sy.Cont.seg (0 : Nat) (ruCells l))
 ((0 : Nat) + Int.toNat (Int.ofNat (k + m)) * (5 : Nat) +
 (1 : Nat) +
 (1 : Nat)) =
 some (Value.int IntKind.i64 (Let.i (ns (8 : Nat)))))
 (Sy.Res.need
 (∃ (i : Int),
 Sy.Cont.at (Sy.Cont.seg (0 : Nat) (ruCells l))
 ((0 : Nat) + Int.toNat (Int.ofNat (k + m)) * (5 : Nat) +
 (1 : Nat) +
 (1 : Nat) +
 (1 : Nat)) =
 some (Value.int IntKind.i64 i))
 (Sy.Res.hyp
 (Sy.Cont.at (Sy.Cont.seg (0 : Nat) (ruCells l))
 ((0 : Nat) + Int.toNat (Int.ofNat (k + m)) * (5 : Nat) +
 (1 : Nat) +
 (1 : Nat) +
 (1 : Nat)) =
 some (Value.int IntKind.i64 (Let.i (ns (9 : Nat)))))
 (Sy.Res.need
 (∃ (i : Int),
 Sy.Cont.at (Sy.Cont.seg (0 : Nat) (ruCells l))
 ((0 : Nat) + Int.toNat (Int.ofNat (k + m)) * (5 : Nat) +
 (1 : Nat) +
 (1 : Nat) +
 (1 : Nat) +
 (1 : Nat)) =
 some (Value.int IntKind.i64 i))
 (Sy.Res.hyp
 (Sy.Cont.at (Sy.Cont.seg (0 : Nat) (ruCells l))
 ((0 : Nat) + Int.toNat (Int.ofNat (k + m)) * (5 : Nat) +
 (1 : Nat) +
 (1 : Nat) +
 (1 : Nat) +
 (1 : Nat)) =
 some (Value.int IntKind.i64 (Let.i (ns (10 : Nat)))))
 (Sy.Res.need
 (ltF (Let.i (ns (6 : Nat))) (Let.i (ns (8 : Nat))) =
 false)
 (Sy.Res.hyp True
 (Sy.Res.need
 ((0 : Int) ≤ Int.ofNat (k + m) ∧
 Int.ofNat (k + m) < (↑(n + (1 : Nat)) : Int))
 (Sy.Res.need
 (∃ (i : Int),
 Sy.Cont.at (Sy.Cont.seg (0 : Nat) (ruCells l))
 ((0 : Nat) +
 Int.toNat (Int.ofNat (k + m)) * (5 : Nat)) =
 some (Value.int IntKind.i64 i))
 (Sy.Res.hyp
 (Sy.Cont.at (Sy.Cont.seg (0 : Nat) (ruCells l))
 ((0 : Nat) +
 Int.toNat (Int.ofNat (k + m)) * (5 : Nat)) =
 some
 (Value.int IntKind.i64
 (Let.i (ns (11 : Nat)))))
 (Sy.Res.need
 (∃ (i : Int),
 Sy.Cont.at (Sy.Cont.seg (0 : Nat) (ruCells l))
 ((0 : Nat) +
 Int.toNat (Int.ofNat (k + m)) *
 (5 : Nat) +
 (1 : Nat)) =
 some (Value.int IntKind.i64 i))
 (Sy.Res.hyp
 (Sy.Cont.at
 (Sy.Cont.seg (0 : Nat) (ruCells l))
 ((0 : Nat) +
 Int.toNat (Int.ofNat (k + m)) *
 (5 : Nat) +
 (1 : Nat)) =
 some
 (Value.int IntKind.i64
 (Let.i (ns (12 : Nat)))))
 (Sy.Res.need
 (∃ (i : Int),
 Sy.Cont.at
 (Sy.Cont.seg (0 : Nat) (ruCells l))
 ((0 : Nat) +
 Int.toNat (Int.ofNat (k + m)) *
 (5 : Nat) +
 (1 : Nat) +
 (1 : Nat)) =
 some (Value.int IntKind.i64 i))
 (Sy.Res.hyp
 (Sy.Cont.at
 (Sy.Cont.seg (0 : Nat) (ruCells l))
 ((0 : Nat) +
 Int.toNat (Int.ofNat (k + m)) *
 (5 : Nat) +
 (1 : Nat) +
 (1 : Nat)) =
 some
 (Value.int IntKind.i64
 (Let.i (ns (13 : Nat)))))
 (Sy.Res.need
 (∃ (i : Int),
 Sy.Cont.at
 (Sy.Cont.seg (0 : Nat)
 (ruCells l))
 ((0 : Nat) +
 Int.toNat
 (Int.ofNat (k + m)) *
 (5 : Nat) +
 (1 : Nat) +
 (1 : Nat) +
 (1 : Nat)) =
 some (Value.int IntKind.i64 i))
 (Sy.Res.hyp
 (Sy.Cont.at
 (Sy.Cont.seg (0 : Nat)
 (ruCells l))
 ((0 : Nat) +
 Int.toNat
 (Int.ofNat (k + m)) *
 (5 : Nat) +
 (1 : Nat) +
 (1 : Nat) +
 (1 : Nat)) =
 some
 (Value.int IntKind.i64
 (Let.i (ns (14 : Nat)))))
 (Sy.Res.need
 (∃ (i : Int),
 Sy.Cont.at
 (Sy.Cont.seg (0 : Nat)
 (ruCells l))
 ((0 : Nat) +
 Int.toNat
 (Int.ofNat
 (k + m)) *
 (5 : Nat) +
 (1 : Nat) +
 (1 : Nat) +
 (1 : Nat) +
 (1 : Nat)) =
 some (Value.int IntKind.i64 i))
 (Sy.Res.hyp
 (Sy.Cont.at
 (Sy.Cont.seg (0 : Nat)
 (ruCells l))
 ((0 : Nat) +
 Int.toNat
 (Int.ofNat
 (k + m)) *
 (5 : Nat) +
 (1 : Nat) +
 (1 : Nat) +
 (1 : Nat) +
 (1 : Nat)) =
 some
 (Value.int IntKind.i64
 (Let.i (ns (15 : Nat)))))
 (Sy.Res.need
 (dgF (Let.i (ns (11 : Nat)))
 (Let.i (ns (13 : Nat))) =
 false)
 (Sy.Res.hyp True
 (Sy.Res.leaf
 (Value.tuple
 (Array.mk
 [Value.int IntKind.u64
 (Int.ofNat v),
 Value.int
 IntKind.i64
 (Int.ofNat
 (k + m)),
 Value.agg
 (Array.mk
 [Value.int
 IntKind.i64
 (0 : Int),
 Value.int
 IntKind.i64
 (0 : Int),
 Value.int
 IntKind.i64
 (0 :
 Int)])]),
 [])))))))))))))))))))))))))))))))))))))))
 (Sy.Res.need
 (Value.bool false = Value.bool false ∨
 Value.bool false = Value.bool true ∧ Value.tuple (Array.mk []) = Value.bool false)
 (Sy.Res.hyp True
 (Sy.Res.need (Tx bs n l ∧ k ≤ n ∧ numF (List.drop k l) (0 : Nat) = some (m, v))
 (Sy.Res.hyp (Nat.le (k + m) n)
 (Sy.Res.need ((0 : Int) ≤ Int.ofNat (k + m) ∧ Int.ofNat (k + m) < (↑(n + (1 : Nat)) : Int))
 (Sy.Res.need
 (∃ (i : Int),
 Sy.Cont.at (Sy.Cont.seg (0 : Nat) (ruCells l))
 ((0 : Nat) + Int.toNat (Int.ofNat (k + m)) * (5 : Nat)) =
 some (Value.int IntKind.i64 i))
 (Sy.Res.hyp
 (Sy.Cont.at (Sy.Cont.seg (0 : Nat) (ruCells l))
 ((0 : Nat) + Int.toNat (Int.ofNat (k + m)) * (5 : Nat)) =
 some (Value.int IntKind.i64 (Let.i (ns (4 : Nat)))))
 (Sy.Res.need
 (∃ (i : Int),
 Sy.Cont.at (Sy.Cont.seg (0 : Nat) (ruCells l))
 ((0 : Nat) + Int.toNat (Int.ofNat (k + m)) * (5 : Nat) + (1 : Nat)) =
 some (Value.int IntKind.i64 i))
 (Sy.Res.hyp
 (Sy.Cont.at (Sy.Cont.seg (0 : Nat) (ruCells l))
 ((0 : Nat) + Int.toNat (Int.ofNat (k + m)) * (5 : Nat) + (1 : Nat)) =
 some (Value.int IntKind.i64 (Let.i (ns (5 : Nat)))))
 (Sy.Res.need
 (∃ (i : Int),
 Sy.Cont.at (Sy.Cont.seg (0 : Nat) (ruCells l))
 ((0 : Nat) + Int.toNat (Int.ofNat (k + m)) * (5 : Nat) + (1 : Nat) +
 (1 : Nat)) =
 some (Value.int IntKind.i64 i))
 (Sy.Res.hyp
 (Sy.Cont.at (Sy.Cont.seg (0 : Nat) (ruCells l))
 ((0 : Nat) + Int.toNat (Int.ofNat (k + m)) * (5 : Nat) + (1 : Nat) +
 (1 : Nat)) =
 some (Value.int IntKind.i64 (Let.i (ns (6 : Nat)))))
 (Sy.Res.need
 (∃ (i : Int),
 Sy.Cont.at (Sy.Cont.seg (0 : Nat) (ruCells l))
 ((0 : Nat) + Int.toNat (Int.ofNat (k + m)) * (5 : Nat) + (1 : Nat) +
 (1 : Nat) +
 (1 : Nat)) =
 some (Value.int IntKind.i64 i))
 (Sy.Res.hyp
 (Sy.Cont.at (Sy.Cont.seg (0 : Nat) (ruCells l))
 ((0 : Nat) + Int.toNat (Int.ofNat (k + m)) * (5 : Nat) + (1 : Nat) +
 (1 : Nat) +
 (1 : Nat)) =
 some (Value.int IntKind.i64 (Let.i (ns (7 : Nat)))))
 (Sy.Res.need
 (∃ (i : Int),
 Sy.Cont.at (Sy.Cont.seg (0 : Nat) (ruCells l))
 ((0 : Nat) + Int.toNat (Int.ofNat (k + m)) * (5 : Nat) + (1 : Nat) +
 (1 : Nat) +
 (1 : Nat) +
 (1 : Nat)) =
 some (Value.int IntKind.i64 i))
 (Sy.Res.hyp
 (Sy.Cont.at (Sy.Cont.seg (0 : Nat) (ruCells l))
 ((0 : Nat) + Int.toNat (Int.ofNat (k + m)) * (5 : Nat) + (1 : Nat) +
 (1 : Nat) +
 (1 : Nat) +
 (1 : Nat)) =
 some (Value.int IntKind.i64 (Let.i (ns (8 : Nat)))))
 (Sy.Res.need (ltF (Let.i (ns (4 : Nat))) (Let.i (ns (6 : Nat))) = false)
 (Sy.Res.hyp True
 (Sy.Res.need
 ((0 : Int) ≤ Int.ofNat (k + m) ∧
 Int.ofNat (k + m) < (↑(n + (1 : Nat)) : Int))
 (Sy.Res.need
 (∃ (i : Int),
 Sy.Cont.at (Sy.Cont.seg (0 : Nat) (ruCells l))
 ((0 : Nat) + Int.toNat (Int.ofNat (k + m)) * (5 : Nat)) =
 some (Value.int IntKind.i64 i))
 (Sy.Res.hyp
 (Sy.Cont.at (Sy.Cont.seg (0 : Nat) (ruCells l))
 ((0 : Nat) + Int.toNat (Int.ofNat (k + m)) * (5 : Nat)) =
 some (Value.int IntKind.i64 (Let.i (ns (9 : Nat)))))
 (Sy.Res.need
 (∃ (i : Int),
 Sy.Cont.at (Sy.Cont.seg (0 : Nat) (ruCells l))
 ((0 : Nat) + Int.toNat (Int.ofNat (k + m)) * (5 : Nat) +
 (1 : Nat)) =
 some (Value.int IntKind.i64 i))
 (Sy.Res.hyp
 (Sy.Cont.at (Sy.Cont.seg (0 : Nat) (ruCells l))
 ((0 : Nat) + Int.toNat (Int.ofNat (k + m)) * (5 : Nat) +
 (1 : Nat)) =
 some (Value.int IntKind.i64 (Let.i (ns (10 : Nat)))))
 (Sy.Res.need
 (∃ (i : Int),
 Sy.Cont.at (Sy.Cont.seg (0 : Nat) (ruCells l))
 ((0 : Nat) +
 Int.toNat (Int.ofNat (k + m)) * (5 : Nat) +
 (1 : Nat) +
 (1 : Nat)) =
 some (Value.int IntKind.i64 i))
 (Sy.Res.hyp
 (Sy.Cont.at (Sy.Cont.seg (0 : Nat) (ruCells l))
 ((0 : Nat) +
 Int.toNat (Int.ofNat (k + m)) * (5 : Nat) +
 (1 : Nat) +
 (1 : Nat)) =
 some (Value.int IntKind.i64 (Let.i (ns (11 : Nat)))))
 (Sy.Res.need
 (∃ (i : Int),
 Sy.Cont.at (Sy.Cont.seg (0 : Nat) (ruCells l))
 ((0 : Nat) +
 Int.toNat (Int.ofNat (k + m)) *
 (5 : Nat) +
 (1 : Nat) +
 (1 : Nat) +
 (1 : Nat)) =
 some (Value.int IntKind.i64 i))
 (Sy.Res.hyp
 (Sy.Cont.at (Sy.Cont.seg (0 : Nat) (ruCells l))
 ((0 : Nat) +
 Int.toNat (Int.ofNat (k + m)) *
 (5 : Nat) +
 (1 : Nat) +
 (1 : Nat) +
 (1 : Nat)) =
 some
 (Value.int IntKind.i64 (Let.i (ns (12 : Nat)))))
 (Sy.Res.need
 (∃ (i : Int),
 Sy.Cont.at (Sy.Cont.seg (0 : Nat) (ruCells l))
 ((0 : Nat) +
 Int.toNat (Int.ofNat (k + m)) *
 (5 : Nat) +
 (1 : Nat) +
 (1 : Nat) +
 (1 : Nat) +
 (1 : Nat)) =
 some (Value.int IntKind.i64 i))
 (Sy.Res.hyp
 (Sy.Cont.at (Sy.Cont.seg (0 : Nat) (ruCells l))
 ((0 : Nat) +
 Int.toNat (Int.ofNat (k + m)) *
 (5 : Nat) +
 (1 : Nat) +
 (1 : Nat) +
 (1 : Nat) +
 (1 : Nat)) =
 some
 (Value.int IntKind.i64
 (Let.i (ns (13 : Nat)))))
 (Sy.Res.need
 (dgF (Let.i (ns (9 : Nat)))
 (Let.i (ns (11 : Nat))) =
 false)
 (Sy.Res.hyp True
 (Sy.Res.leaf
 (Value.tuple
 (Array.mk
 [Value.int IntKind.u64
 (Int.ofNat v),
 Value.int IntKind.i64
 (Int.ofNat (k + m)),
 Value.agg
 (Array.mk
 [Value.int IntKind.i64
 (0 : Int),
 Value.int IntKind.i64
 (0 : Int),
 Value.int IntKind.i64
 (0 : Int)])]),
 []))))))))))))))))))))))))))))))))))))
 (Sy.Res.need
 (Value.bool false = Value.bool false ∨
 Value.bool false = Value.bool true ∧ Value.tuple (Array.mk []) = Value.bool false)
 (Sy.Res.hyp True
 (Sy.Res.need (Tx bs n l ∧ k ≤ n ∧ numF (List.drop k l) (0 : Nat) = some (m, v))
 (Sy.Res.hyp (Nat.le (k + m) n)
 (Sy.Res.need ((0 : Int) ≤ Int.ofNat (k + m) ∧ Int.ofNat (k + m) < (↑(n + (1 : Nat)) : Int))
 (Sy.Res.need
 (∃ (i : Int),
 Sy.Cont.at (Sy.Cont.seg (0 : Nat) (ruCells l))
 ((0 : Nat) + Int.toNat (Int.ofNat (k + m)) * (5 : Nat)) =
 some (Value.int IntKind.i64 i))
 (Sy.Res.hyp
 (Sy.Cont.at (Sy.Cont.seg (0 : Nat) (ruCells l))
 ((0 : Nat) + Int.toNat (Int.ofNat (k + m)) * (5 : Nat)) =
 some (Value.int IntKind.i64 (Let.i (ns (3 : Nat)))))
 (Sy.Res.need
 (∃ (i : Int),
 Sy.Cont.at (Sy.Cont.seg (0 : Nat) (ruCells l))
 ((0 : Nat) + Int.toNat (Int.ofNat (k + m)) * (5 : Nat) + (1 : Nat)) =
 some (Value.int IntKind.i64 i))
 (Sy.Res.hyp
 (Sy.Cont.at (Sy.Cont.seg (0 : Nat) (ruCells l))
 ((0 : Nat) + Int.toNat (Int.ofNat (k + m)) * (5 : Nat) + (1 : Nat)) =
 some (Value.int IntKind.i64 (Let.i (ns (4 : Nat)))))
 (Sy.Res.need
 (∃ (i : Int),
 Sy.Cont.at (Sy.Cont.seg (0 : Nat) (ruCells l))
 ((0 : Nat) + Int.toNat (Int.ofNat (k + m)) * (5 : Nat) + (1 : Nat) + (1 : Nat)) =
 some (Value.int IntKind.i64 i))
 (Sy.Res.hyp
 (Sy.Cont.at (Sy.Cont.seg (0 : Nat) (ruCells l))
 ((0 : Nat) + Int.toNat (Int.ofNat (k + m)) * (5 : Nat) + (1 : Nat) + (1 : Nat)) =
 some (Value.int IntKind.i64 (Let.i (ns (5 : Nat)))))
 (Sy.Res.need
 (∃ (i : Int),
 Sy.Cont.at (Sy.Cont.seg (0 : Nat) (ruCells l))
 ((0 : Nat) + Int.toNat (Int.ofNat (k + m)) * (5 : Nat) + (1 : Nat) + (1 : Nat) +
 (1 : Nat)) =
 some (Value.int IntKind.i64 i))
 (Sy.Res.hyp
 (Sy.Cont.at (Sy.Cont.seg (0 : Nat) (ruCells l))
 ((0 : Nat) + Int.toNat (Int.ofNat (k + m)) * (5 : Nat) + (1 : Nat) + (1 : Nat) +
 (1 : Nat)) =
 some (Value.int IntKind.i64 (Let.i (ns (6 : Nat)))))
 (Sy.Res.need
 (∃ (i : Int),
 Sy.Cont.at (Sy.Cont.seg (0 : Nat) (ruCells l))
 ((0 : Nat) + Int.toNat (Int.ofNat (k + m)) * (5 : Nat) + (1 : Nat) +
 (1 : Nat) +
 (1 : Nat) +
 (1 : Nat)) =
 some (Value.int IntKind.i64 i))
 (Sy.Res.hyp
 (Sy.Cont.at (Sy.Cont.seg (0 : Nat) (ruCells l))
 ((0 : Nat) + Int.toNat (Int.ofNat (k + m)) * (5 : Nat) + (1 : Nat) +
 (1 : Nat) +
 (1 : Nat) +
 (1 : Nat)) =
 some (Value.int IntKind.i64 (Let.i (ns (7 : Nat)))))
 (Sy.Res.need (ltF (Let.i (ns (3 : Nat))) (Let.i (ns (5 : Nat))) = false)
 (Sy.Res.hyp True
 (Sy.Res.need
 ((0 : Int) ≤ Int.ofNat (k + m) ∧
 Int.ofNat (k + m) < (↑(n + (1 : Nat)) : Int))
 (Sy.Res.need
 (∃ (i : Int),
 Sy.Cont.at (Sy.Cont.seg (0 : Nat) (ruCells l))
 ((0 : Nat) + Int.toNat (Int.ofNat (k + m)) * (5 : Nat)) =
 some (Value.int IntKind.i64 i))
 (Sy.Res.hyp
 (Sy.Cont.at (Sy.Cont.seg (0 : Nat) (ruCells l))
 ((0 : Nat) + Int.toNat (Int.ofNat (k + m)) * (5 : Nat)) =
 some (Value.int IntKind.i64 (Let.i (ns (8 : Nat)))))
 (Sy.Res.need
 (∃ (i : Int),
 Sy.Cont.at (Sy.Cont.seg (0 : Nat) (ruCells l))
 ((0 : Nat) + Int.toNat (Int.ofNat (k + m)) * (5 : Nat) +
 (1 : Nat)) =
 some (Value.int IntKind.i64 i))
 (Sy.Res.hyp
 (Sy.Cont.at (Sy.Cont.seg (0 : Nat) (ruCells l))
 ((0 : Nat) + Int.toNat (Int.ofNat (k + m)) * (5 : Nat) +
 (1 : Nat)) =
 some (Value.int IntKind.i64 (Let.i (ns (9 : Nat)))))
 (Sy.Res.need
 (∃ (i : Int),
 Sy.Cont.at (Sy.Cont.seg (0 : Nat) (ruCells l))
 ((0 : Nat) + Int.toNat (Int.ofNat (k + m)) * (5 : Nat) +
 (1 : Nat) +
 (1 : Nat)) =
 some (Value.int IntKind.i64 i))
 (Sy.Res.hyp
 (Sy.Cont.at (Sy.Cont.seg (0 : Nat) (ruCells l))
 ((0 : Nat) + Int.toNat (Int.ofNat (k + m)) * (5 : Nat) +
 (1 : Nat) +
 (1 : Nat)) =
 some (Value.int IntKind.i64 (Let.i (ns (10 : Nat)))))
 (Sy.Res.need
 (∃ (i : Int),
 Sy.Cont.at (Sy.Cont.seg (0 : Nat) (ruCells l))
 ((0 : Nat) + Int.toNat (Int.ofNat (k + m)) * (5 : Nat) +
 (1 : Nat) +
 (1 : Nat) +
 (1 : Nat)) =
 some (Value.int IntKind.i64 i))
 (Sy.Res.hyp
 (Sy.Cont.at (Sy.Cont.seg (0 : Nat) (ruCells l))
 ((0 : Nat) + Int.toNat (Int.ofNat (k + m)) * (5 : Nat) +
 (1 : Nat) +
 (1 : Nat) +
 (1 : Nat)) =
 some (Value.int IntKind.i64 (Let.i (ns (11 : Nat)))))
 (Sy.Res.need
 (∃ (i : Int),
 Sy.Cont.at (Sy.Cont.seg (0 : Nat) (ruCells l))
 ((0 : Nat) +
 Int.toNat (Int.ofNat (k + m)) *
 (5 : Nat) +
 (1 : Nat) +
 (1 : Nat) +
 (1 : Nat) +
 (1 : Nat)) =
 some (Value.int IntKind.i64 i))
 (Sy.Res.hyp
 (Sy.Cont.at (Sy.Cont.seg (0 : Nat) (ruCells l))
 ((0 : Nat) +
 Int.toNat (Int.ofNat (k + m)) *
 (5 : Nat) +
 (1 : Nat) +
 (1 : Nat) +
 (1 : Nat) +
 (1 : Nat)) =
 some (Value.int IntKind.i64 (Let.i (ns (12 : Nat)))))
 (Sy.Res.need
 (dgF (Let.i (ns (8 : Nat))) (Let.i (ns (10 : Nat))) =
 false)
 (Sy.Res.hyp True
 (Sy.Res.leaf
 (Value.tuple
 (Array.mk
 [Value.int IntKind.u64 (Int.ofNat v),
 Value.int IntKind.i64 (Int.ofNat (k + m)),
 Value.agg
 (Array.mk
 [Value.int IntKind.i64 (0 : Int),
 Value.int IntKind.i64 (0 : Int),
 Value.int IntKind.i64 (0 : Int)])]),
 [])))))))))))))))))))))))))))))))))))
theorem nu_run (n gl cl k : Nat) (bs : List Nat) (l : List Ru) (m v : Nat) : Sy.Ran (Sy.inT Tryz.prog (ctxNu n gl cl k bs l m v) 50 fNumber (nuC n gl cl k bs l m v).args (Sy.blks (nuC n gl cl k bs l m v).mem) Sy.noB) nu_o (nu_R n gl cl k bs l m v) := ⟨fun ns => by kernel_rfl, fun ns => by kernel_rfl⟩

theorem ctxNu_holds (n gl cl k : Nat) (bs : List Nat) (l : List Ru) (m v : Nat) : (ctxNu n gl cl k bs l m v).holds Tryz.prog := Sy.mkS_holds (fun p hp a L => by
  rcases List.mem_cons.1 hp with rfl | hp
  · exact ruK_met sxC_met a
  rcases List.mem_cons.1 hp with rfl | hp
  · exact ruK_met ltNo_met a
  rcases List.mem_singleton.1 hp with rfl
  exact ruK_met dgNo_met a) (fun p hp a L => by
  rcases List.mem_singleton.1 hp with rfl
  exact loopN_met _ _ _ _ _ _ _ _ _) (fun p hp a L => by
  rcases List.mem_singleton.1 hp with rfl
  exact hxK_meets a L)

theorem numF_lt : ∀ (l : List Ru) (w m v : Nat), numF l w = some (m, v) → m < l.length
  | [], w, m, v, h => by cases h
  | x :: r, w, m, v, h => by
    rw [numF_cons] at h
    split at h
    · split at h
      · split at h
        · rename_i m' u' hq
          simp only [Option.some.injEq, Prod.mk.injEq] at h
          obtain ⟨rfl, rfl⟩ := h
          have := numF_lt r _ _ _ hq
          simp only [List.length_cons, Nat.succ_eq_add_one]
          omega
        · cases h
      · cases h
    · simp only [Option.some.injEq, Prod.mk.injEq] at h
      obtain ⟨rfl, rfl⟩ := h
      simp

theorem lt_nat {a b : Nat} (h : a < b) : Int.ofNat a < ((b : Nat) : Int) := Int.ofNat_lt.2 h

theorem nuC_met (n gl cl k : Nat) (bs : List Nat) (l : List Ru) (m v : Nat) : Sy.Meets Tryz.prog (nuC n gl cl k bs l m v) := by
  refine Sy.meets_of (ctxNu_holds n gl cl k bs l m v) mixed (nu_run n gl cl k bs l m v) fun hok ns => ?_
  obtain ⟨hT, hk, hx2, hnum, hy2⟩ : Tx bs n l ∧ k < n ∧ (∀ x y, l[k]? = some x → l[k + 1]? = some y → ¬ (x.r = 48 ∧ 0 < y.n ∧ (y.r = 120 ∨ y.r = 88))) ∧ numF (l.drop k) 0 = some (m, v) ∧ (∀ x, l[k + m]? = some x → ltF (Int.ofNat x.r) (Int.ofNat x.n) = false ∧ dgF (Int.ofNat x.r) (Int.ofNat x.n) = false) := hok
  have hsm := hT.small
  have hkm : k + m ≤ n := by
    have := numF_lt _ _ _ _ hnum
    rw [List.length_drop, hT.len] at this
    omega
  obtain ⟨x, hx, -, -⟩ := hT.get (Nat.le_of_lt hk)
  obtain ⟨x', hx', -, -⟩ := hT.get (show k + 1 ≤ n from hk)
  obtain ⟨y, hy, -, -⟩ := hT.get hkm
  obtain ⟨a0, a1, a2, a3, a4⟩ := ru_at hx
  obtain ⟨b0, b1, b2, b3, b4⟩ := ru_at hx'
  obtain ⟨c0, c1, c2, c3, c4⟩ := ru_at hy
  obtain ⟨hy3, hy4⟩ := hy2 y hy
  have hhex := hx2 x x' hx hx'
  have keyL : ∀ i j : Nat, Int.ofNat y.r = (ns i).i → Int.ofNat y.n = (ns j).i → ltF (ns i).i (ns j).i = false := fun i j h1 h2 => by rw [← h1, ← h2]; exact hy3
  have keyD : ∀ i j : Nat, Int.ofNat y.r = (ns i).i → Int.ofNat y.n = (ns j).i → dgF (ns i).i (ns j).i = false := fun i j h1 h2 => by rw [← h1, ← h2]; exact hy4
  have keyH : ∀ i1 i2 i3 : Nat, ∀ z : Int, (z = 120 ∨ z = 88) → Int.ofNat x.r = (ns i1).i → Int.ofNat x'.n = (ns i2).i → Int.ofNat x'.r = (ns i3).i → Ex.eqQ (ns i1).i 48 = true → (bif true then Ex.ltQ 0 (ns i2).i else false) = true → Ex.eqQ (ns i3).i z = true → False := fun i1 i2 i3 z hz h1 h2 h3 t1 t2 t3 => by
    rw [← h1, Sy.q_eq] at t1
    rw [cond_true, ← h2, Sy.q_lt] at t2
    rw [← h3, Sy.q_eq] at t3
    have t1 : (x.r : Int) = 48 := t1
    have t2 : (0 : Int) < (x'.n : Int) := t2
    have t3 : (x'.r : Int) = z := t3
    exact hhex ⟨by omega, by omega, by omega⟩
  simp only [nu_R, Sy.Res.holds, show Int.toNat (Int.ofNat k) = k from rfl, show Int.toNat (Int.ofNat (k + m)) = k + m from rfl, w_inc (show k < 2000000 by omega), show Int.toNat (Int.ofNat (k + 1)) = k + 1 from rfl, Nat.add_eq, Nat.add_zero, Nat.succ_eq_add_one,
    a0, a1, a2, a3, a4, b0, b1, b2, b3, b4, c0, c1, c2, c3, c4, Option.some.injEq, Value.int.injEq, true_and, exists_eq']
  have key88 : ∀ i1 i2 i3 : Nat, Int.ofNat x.r = (ns i1).i → Int.ofNat x'.n = (ns i2).i → Int.ofNat x'.r = (ns i3).i → Ex.eqQ (ns i1).i 48 = true → (bif true then Ex.ltQ 0 (ns i2).i else false) = true → Value.bool (bif false then true else Ex.eqQ (ns i3).i 88) = Value.bool false := fun i1 i2 i3 h1 h2 h3 t1 t2 => by
    cases h : Ex.eqQ (ns i3).i 88 with
    | false => rfl
    | true => exact (keyH i1 i2 i3 88 (.inr rfl) h1 h2 h3 t1 t2 h).elim
  repeat' (first | apply And.intro | intro _)
  all_goals first
    | exact Int.natCast_nonneg _
    | exact lt_nat (by omega)
    | exact .inl trivial
    | exact hT
    | exact Nat.le_of_lt hk
    | exact hnum
    | exact keyL _ _ (by assumption) (by assumption)
    | exact keyD _ _ (by assumption) (by assumption)
    | exact .inl rfl
    | exact (keyH _ _ _ 120 (.inl rfl) (by assumption) (by assumption) (by assumption) (by assumption) (by assumption) (by assumption)).elim
    | exact .inr (key88 _ _ _ (by assumption) (by assumption) (by assumption) (by assumption) (by assumption))
    | exact .inr ⟨rfl, key88 _ _ _ (by assumption) (by assumption) (by assumption) (by assumption) (by assumption)⟩
    | exact Sy.plainO_leaf (List.mem_singleton_self _) rfl rfl

end Go.Proofs.YtlpcnaeknbmjdaaGreat
