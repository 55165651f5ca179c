/-
  Two lists of instructions, compared.
-/
import Derived.Test.YtgaejhhipnpopaaLwA
namespace Go.Proofs.Ytgaejhhipnpopaa
set_option linter.unusedVariables false
set_option linter.unusedSimpArgs false
open Go Go.RowKit
open Sy (Let Blk)

abbrev fSame : FuncId := 15
noncomputable def bodyS : Code := Sy.loopBody Try.f15 0

def slS (ga gb ca cb n m k : Nat) : List (Nat × Value) := [(0, .slice (some ⟨ga, 0, none⟩) n ca), (1, .slice (some ⟨gb, 0, none⟩) m cb), (4, .bool false), (5, .int .i64 k)]
def memS (ga gb : Nat) (xs ys : List Value) : List Blk := [⟨ga, .seg 0 xs, false⟩, ⟨gb, .seg 0 ys, false⟩]

/-- The call. -/
def sameC (ga gb ca cb : Nat) (A B : List I) : Sy.CallC :=
  ⟨fSame, #[.slice (some ⟨ga, 0, none⟩) A.length ca, .slice (some ⟨gb, 0, none⟩) B.length cb], A.length ≤ 1000000000, ⟨[(ga, .seg 0 (insCells A)), (gb, .seg 0 (insCells B))], [], 0⟩, [Sy.plainO (.bool (decide (A = B)))]⟩

noncomputable def loopS (ga gb ca cb : Nat) (A B : List I) : Sy.LoopC :=
  ⟨.loop bodyS, 26, slS ga gb ca cb A.length B.length 0, A.length = B.length ∧ A.length ≤ 1000000000, ⟨[(ga, .seg 0 (insCells A)), (gb, .seg 0 (insCells B))], [], 0⟩,
    [(⟨fun _ => A = B, fun _ => []⟩, .exit 0, fun _ => []), (⟨fun _ => A ≠ B, fun _ => []⟩, .ret, fun _ => [(4, .bool false)])]⟩
noncomputable def ctxS (ga gb ca cb : Nat) (A B : List I) : Sy.Ctx := Sy.mkS [] [(fSame, fun _ _ => loopS ga gb ca cb A B)] []

def same_o : Sy.O := (Sy.O.fork Sy.O.nil (Sy.O.steps [0, 0, 0] (Sy.O.fork Sy.O.nil Sy.O.nil)))
noncomputable def same_R (ga : Nat) (gb : Nat) (ca : Nat) (cb : Nat) (A : List I) (B : List I) (ns : Nat → Sy.Let) : Sy.Res (Value × List Blk) := Sy.Res.br (!Ex.eqQ (↑(List.length A) : Int) (↑(List.length B) : Int)) (Sy.Res.leaf (Value.bool false, []))
 (Sy.Res.need (List.length A = List.length B ∧ List.length A ≤ (1000000000 : Nat))
 (Sy.Res.both (Sy.Res.hyp (A = B) (Sy.Res.leaf (Value.bool true, [])))
 (Sy.Res.hyp (A = B → False) (Sy.Res.leaf (Value.bool false, [])))))
theorem same_run (ga gb ca cb : Nat) (A B : List I) : Sy.Ran (Sy.inT Try.prog (ctxS ga gb ca cb A B) 50 fSame (sameC ga gb ca cb A B).args (Sy.blks (sameC ga gb ca cb A B).mem) Sy.noB) same_o (same_R ga gb ca cb A B) := ⟨fun ns => by kernel_rfl, fun ns => by kernel_rfl⟩
def sameB_o : Sy.O := (Sy.O.fork (Sy.O.steps [0, 0, 1, 2, 1, 3, 0, 1, 1, 1, 1, 1, 1, 1, 1, 4, 5, 6, 1, 7, 1, 1, 1, 1, 1, 1, 1, 1, 1, 8] (Sy.O.fork Sy.O.nil Sy.O.nil)) Sy.O.nil)
noncomputable def sameB_R (ga : Nat) (gb : Nat) (ca : Nat) (cb : Nat) (n : Nat) (m : Nat) (k : Nat) (xs : List Value) (ys : List Value) (rest : List Value) (ns : Nat → Sy.Let) : Sy.Res (Exit × Nat × List Value × List Blk) := Sy.Res.br (Ex.ltQ (↑k : Int) (↑n : Int))
 (Sy.Res.need ((0 : Int) ≤ (↑k : Int) ∧ (↑k : Int) < (↑n : Int))
 (Sy.Res.need
 (∃ (i : Int),
 Sy.Cont.at (Sy.Cont.seg (0 : Nat) xs) ((0 : Nat) + Int.toNat (↑k : Int) * (6 : Nat)) =
 some (Value.int IntKind.i64 i))
 (Sy.Res.hyp
 (Sy.Cont.at (Sy.Cont.seg (0 : Nat) xs) ((0 : Nat) + Int.toNat (↑k : Int) * (6 : Nat)) =
 some (Value.int IntKind.i64 (Let.i (ns (0 : Nat)))))
 (Sy.Res.need
 (∃ (i : Int),
 Sy.Cont.at (Sy.Cont.seg (0 : Nat) xs) ((0 : Nat) + Int.toNat (↑k : Int) * (6 : Nat) + (1 : Nat)) =
 some (Value.int IntKind.i64 i))
 (Sy.Res.hyp
 (Sy.Cont.at (Sy.Cont.seg (0 : Nat) xs) ((0 : Nat) + Int.toNat (↑k : Int) * (6 : Nat) + (1 : Nat)) =
 some (Value.int IntKind.i64 (Let.i (ns (1 : Nat)))))
 (Sy.Res.need
 (∃ (i : Int),
 Sy.Cont.at (Sy.Cont.seg (0 : Nat) xs)
 ((0 : Nat) + Int.toNat (↑k : Int) * (6 : Nat) + (1 : Nat) + (1 : Nat)) =
 some (Value.int IntKind.i64 i))
 (Sy.Res.hyp
 (Sy.Cont.at (Sy.Cont.seg (0 : Nat) xs)
 ((0 : Nat) + Int.toNat (↑k : Int) * (6 : Nat) + (1 : Nat) + (1 : Nat)) =
 some (Value.int IntKind.i64 (Let.i (ns (2 : Nat)))))
 (Sy.Res.need
 (∃ (i : Int),
 Sy.Cont.at (Sy.Cont.seg (0 : Nat) xs)
 ((0 : Nat) + Int.toNat (↑k : Int) * (6 : Nat) + (1 : Nat) + (1 : Nat) + (1 : Nat)) =
 some (Value.int IntKind.i64 i))
 (Sy.Res.hyp
 (Sy.Cont.at (Sy.Cont.seg (0 : Nat) xs)
 ((0 : Nat) + Int.toNat (↑k : Int) * (6 : Nat) + (1 : Nat) + (1 : Nat) + (1 : Nat)) =
 some (Value.int IntKind.i64 (Let.i (ns (3 : Nat)))))
 (Sy.Res.need
 (∃ (i : Int),
 Sy.Cont.at (Sy.Cont.seg (0 : Nat) xs)
 ((0 : Nat) + Int.toNat (↑k : Int) * (6 : Nat) + (1 : Nat) + (1 : Nat) + (1 : Nat) +
 (1 : Nat)) =
 some (Value.int IntKind.i64 i))
 (Sy.Res.hyp
 (Sy.Cont.at (Sy.Cont.seg (0 : Nat) xs)
 ((0 : Nat) + Int.toNat (↑k : Int) * (6 : Nat) + (1 : Nat) + (1 : Nat) + (1 : Nat) +
 (1 : Nat)) =
 some (Value.int IntKind.i64 (Let.i (ns (4 : Nat)))))
 (Sy.Res.need
 (∃ (i : Int),
 Sy.Cont.at (Sy.Cont.seg (0 : Nat) xs)
 ((0 : Nat) + Int.toNat (↑k : Int) * (6 : Nat) + (1 : Nat) + (1 : Nat) + (1 : Nat) +
 (1 : Nat) +
 (1 : Nat)) =
 some (Value.int IntKind.i64 i))
 (Sy.Res.hyp
 (Sy.Cont.at (Sy.Cont.seg (0 : Nat) xs)
 ((0 : Nat) + Int.toNat (↑k : Int) * (6 : Nat) + (1 : Nat) + (1 : Nat) + (1 : Nat) +
 (1 : Nat) +
 (1 : Nat)) =
 some (Value.int IntKind.i64 (Let.i (ns (5 : Nat)))))
 (Sy.Res.need ((0 : Int) ≤ (↑k : Int) ∧ (↑k : Int) < (↑m : Int))
 (Sy.Res.need
 (∃ (i : Int),
 Sy.Cont.at (Sy.Cont.seg (0 : Nat) ys) ((0 : Nat) + Int.toNat (↑k : Int) * (6 : Nat)) =
 some (Value.int IntKind.i64 i))
 (Sy.Res.hyp
 (Sy.Cont.at (Sy.Cont.seg (0 : Nat) ys)
 ((0 : Nat) + Int.toNat (↑k : Int) * (6 : Nat)) =
 some (Value.int IntKind.i64 (Let.i (ns (6 : Nat)))))
 (Sy.Res.need
 (∃ (i : Int),
 Sy.Cont.at (Sy.Cont.seg (0 : Nat) ys)
 ((0 : Nat) + Int.toNat (↑k : Int) * (6 : Nat) + (1 : Nat)) =
 some (Value.int IntKind.i64 i))
 (Sy.Res.hyp
 (Sy.Cont.at (Sy.Cont.seg (0 : Nat) ys)
 ((0 : Nat) + Int.toNat (↑k : Int) * (6 : Nat) + (1 : Nat)) =
 some (Value.int IntKind.i64 (Let.i (ns (7 : Nat)))))
 (Sy.Res.need
 (∃ (i : Int),
 Sy.Cont.at (Sy.Cont.seg (0 : Nat) ys)
 ((0 : Nat) + Int.toNat (↑k : Int) * (6 : Nat) + (1 : Nat) + (1 : Nat)) =
 some (Value.int IntKind.i64 i))
 (Sy.Res.hyp
 (Sy.Cont.at (Sy.Cont.seg (0 : Nat) ys)
 ((0 : Nat) + Int.toNat (↑k : Int) * (6 : Nat) + (1 : Nat) + (1 : Nat)) =
 some (Value.int IntKind.i64 (Let.i (ns (8 : Nat)))))
 (Sy.Res.need
 (∃ (i : Int),
 Sy.Cont.at (Sy.Cont.seg (0 : Nat) ys)
 ((0 : Nat) + Int.toNat (↑k : Int) * (6 : Nat) + (1 : Nat) +
 (1 : Nat) +
 (1 : Nat)) =
 some (Value.int IntKind.i64 i))
 (Sy.Res.hyp
 (Sy.Cont.at (Sy.Cont.seg (0 : Nat) ys)
 ((0 : Nat) + Int.toNat (↑k : Int) * (6 : Nat) + (1 : Nat) +
 (1 : Nat) +
 (1 : Nat)) =
 some (Value.int IntKind.i64 (Let.i (ns (9 : Nat)))))
 (Sy.Res.need
 (∃ (i : Int),
 Sy.Cont.at (Sy.Cont.seg (0 : Nat) ys)
 ((0 : Nat) + Int.toNat (↑k : Int) * (6 : Nat) + (1 : Nat) +
 (1 : Nat) +
 (1 : Nat) +
 (1 : Nat)) =
 some (Value.int IntKind.i64 i))
 (Sy.Res.hyp
 (Sy.Cont.at (Sy.Cont.seg (0 : Nat) ys)
 ((0 : Nat) + Int.toNat (↑k : Int) * (6 : Nat) + (1 : Nat) +
 (1 : Nat) +
 (1 : Nat) +
 (1 : Nat)) =
 some (Value.int IntKind.i64 (Let.i (ns (10 : Nat)))))
 (Sy.Res.need
 (∃ (i : Int),
 Sy.Cont.at (Sy.Cont.seg (0 : Nat) ys)
 ((0 : Nat) + Int.toNat (↑k : Int) * (6 : Nat) + (1 : Nat) +
 (1 : Nat) +
 (1 : Nat) +
 (1 : Nat) +
 (1 : Nat)) =
 some (Value.int IntKind.i64 i))
 (Sy.Res.hyp
 (Sy.Cont.at (Sy.Cont.seg (0 : Nat) ys)
 ((0 : Nat) + Int.toNat (↑k : Int) * (6 : Nat) + (1 : Nat) +
 (1 : Nat) +
 (1 : Nat) +
 (1 : Nat) +
 (1 : Nat)) =
 some (Value.int IntKind.i64 (Let.i (ns (11 : Nat)))))
 (Sy.Res.br
 (!(Ex.eqQ (Let.i (ns (0 : Nat))) (Let.i (ns (6 : Nat))) &&
 (Ex.eqQ (Let.i (ns (1 : Nat))) (Let.i (ns (7 : Nat))) &&
 (Ex.eqQ (Let.i (ns (2 : Nat))) (Let.i (ns (8 : Nat))) &&
 (Ex.eqQ (Let.i (ns (3 : Nat))) (Let.i (ns (9 : Nat))) &&
 (Ex.eqQ (Let.i (ns (4 : Nat)))
 (Let.i (ns (10 : Nat))) &&
 (Ex.eqQ (Let.i (ns (5 : Nat)))
 (Let.i (ns (11 : Nat))) &&
 true)))))))
 (Sy.Res.leaf
 (Exit.ret, (26 : Nat),
 [Value.slice (some (Addr.mk ga (0 : Nat) none)) n ca,
 Value.slice (some (Addr.mk gb (0 : Nat) none)) m cb,
 Value.bool false, Value.int IntKind.i64 (↑k : Int)],
 memS ga gb xs ys))
 (Sy.Res.leaf
 (Exit.normal, (26 : Nat),
 [Value.slice (some (Addr.mk ga (0 : Nat) none)) n ca,
 Value.slice (some (Addr.mk gb (0 : Nat) none)) m cb,
 Value.bool false,
 Value.int IntKind.i64
 (Ex.wrapQ IntKind.i64 (Ex.addQ (↑k : Int) (1 : Int)))],
 memS ga gb xs ys)))))))))))))))))))))))))))))
 (Sy.Res.leaf
 (Exit.exit (0 : Nat), (26 : Nat),
 [Value.slice (some (Addr.mk ga (0 : Nat) none)) n ca, Value.slice (some (Addr.mk gb (0 : Nat) none)) m cb,
 Value.bool false, Value.int IntKind.i64 (↑k : Int)],
 memS ga gb xs ys))
theorem sameB_run (ga gb ca cb n m k : Nat) (xs ys : List Value) (rest : List Value) : Sy.Ran (Sy.pieceT Try.prog Sy.S0 50 fSame bodyS 26 (slS ga gb ca cb n m k) rest (memS ga gb xs ys) [0, 1, 4, 5]) sameB_o (sameB_R ga gb ca cb n m k xs ys rest) := ⟨fun ns => by kernel_rfl, fun ns => by kernel_rfl⟩

theorem cells_at {α : Type} (f : α → List Value) (sz : Nat) (hf : ∀ x, (f x).length = sz) : ∀ {l : List α} {k : Nat} {x : α}, l[k]? = some x → ∀ j u, (f x)[j]? = some u → (l.flatMap f)[k * sz + j]? = some u
  | [], k, x, h, _, _, _ => by simp at h
  | y :: l, k, x, h, j, u, hu => by
    have hj : j < sz := by rw [← hf x]; exact (List.getElem?_eq_some_iff.1 hu).1
    rw [List.flatMap_cons]
    cases k with
    | zero =>
      simp only [List.getElem?_cons_zero, Option.some.injEq] at h
      subst h
      rw [List.getElem?_append_left (by rw [hf]; omega), Nat.zero_mul, Nat.zero_add]
      exact hu
    | succ k =>
      rw [List.getElem?_append_right (by rw [hf, Nat.succ_mul]; omega), hf]
      have := cells_at f sz hf (l := l) (k := k) (by simpa using h) j u hu
      rw [show (k + 1) * sz + j - sz = k * sz + j by rw [Nat.succ_mul]; omega]
      exact this

theorem seg_at {α : Type} (f : α → List Value) (sz : Nat) (hf : ∀ x, (f x).length = sz) {l : List α} {k : Nat} {x : α} (h : l[k]? = some x) (o j : Nat) {u : Value} (hu : (f x)[j]? = some u) : (Sy.Cont.seg o (l.flatMap f)).at (o + k * sz + j) = some u := by
  simp only [Sy.Cont.at]
  rw [if_pos (by omega), show o + k * sz + j - o = k * sz + j by omega]
  exact cells_at f sz hf h j u hu

theorem ins_at {l : List I} {k : Nat} {x : I} (h : l[k]? = some x) (o : Nat) :
    (Sy.Cont.seg o (insCells l)).at (o + Int.toNat (k : Int) * 6) = some (.int .i64 x.op) ∧ (Sy.Cont.seg o (insCells l)).at (o + Int.toNat (k : Int) * 6 + 1) = some (.int .i64 x.rd) ∧ (Sy.Cont.seg o (insCells l)).at (o + Int.toNat (k : Int) * 6 + 1 + 1) = some (.int .i64 x.rn) ∧
    (Sy.Cont.seg o (insCells l)).at (o + Int.toNat (k : Int) * 6 + 1 + 1 + 1) = some (.int .i64 x.rm) ∧ (Sy.Cont.seg o (insCells l)).at (o + Int.toNat (k : Int) * 6 + 1 + 1 + 1 + 1) = some (.int .i64 x.imm) ∧ (Sy.Cont.seg o (insCells l)).at (o + Int.toNat (k : Int) * 6 + 1 + 1 + 1 + 1 + 1) = some (.int .i64 x.cond) := by
  have hh := fun j u hu => seg_at I.cells 6 (fun _ => rfl) h o j (u := u) hu
  simp only [Int.toNat_natCast]
  exact ⟨hh 0 _ rfl, hh 1 _ rfl, hh 2 _ rfl, hh 3 _ rfl, hh 4 _ rfl, hh 5 _ rfl⟩

theorem ex_int (k : IntKind) (a : Int) : (∃ i : Int, (some (Value.int k a) : Option Value) = some (Value.int k i)) = True := by simp
theorem some_int (k : IntKind) (a b : Int) : ((some (Value.int k a) : Option Value) = some (Value.int k b)) = (a = b) := by simp

theorem lt_t (a b : Int) : (Ex.ltQ a b = true) = (a < b) := by rw [Ex.ltQ_eq]; simp
theorem lt_f (a b : Int) : (Ex.ltQ a b = false) = ¬ (a < b) := by rw [Ex.ltQ_eq]; simp
theorem inc_i (k : Nat) (h : k < 1000000001) : Ex.wrapQ .i64 (Ex.addQ (k : Int) 1) = ((k + 1 : Nat) : Int) := by
  rw [Ex.wrapQ_eq, Ex.addQ_eq]
  simp [IntKind.wrap, IntKind.signed, IntKind.bits]
  omega

theorem I.ext_iff' (x y : I) : x = y ↔ x.op = y.op ∧ x.rd = y.rd ∧ x.rn = y.rn ∧ x.rm = y.rm ∧ x.imm = y.imm ∧ x.cond = y.cond := by
  cases x; cases y; simp

theorem loopS_met (ga gb ca cb : Nat) (A B : List I) : Sy.MeetsL Try.prog (loopS ga gb ca cb A B) := by
  refine Sy.loop_of (n := 50) (fn := fSame) Sy.S0_holds mixed (body := bodyS) rfl [0, 1, 4, 5] (fun k : Nat => slS ga gb ca cb A.length B.length k) (fun _ => memS ga gb (insCells A) (insCells B)) (fun k => k ≤ A.length ∧ A.length = B.length ∧ A.length ≤ 1000000000 ∧ A.take k = B.take k) (fun k => A.length - k)
    0 (fun h => ⟨Nat.zero_le _, h.1, h.2, rfl⟩) (fun p hp => hp) [0, 1] (by decide) rfl (o := fun _ => sameB_o) (R := fun k xs => sameB_R ga gb ca cb A.length B.length k (insCells A) (insCells B) xs) (fun k xs _ => sameB_run ga gb ca cb A.length B.length k (insCells A) (insCells B) xs) ?_
  rintro - k rest ⟨hk, hl, hm, ht⟩ ns
  simp only [sameB_R, Sy.Res.holds, lt_t, lt_f]
  refine ⟨fun hlt => ?_, fun hge => ?_⟩
  · have hlt : k < A.length := by omega
    have ea : A[k]? = some A[k] := List.getElem?_eq_getElem hlt
    have eb : B[k]? = some B[k] := List.getElem?_eq_getElem (by omega)
    obtain ⟨a0, a1, a2, a3, a4, a5⟩ := ins_at ea 0
    obtain ⟨b0, b1, b2, b3, b4, b5⟩ := ins_at eb 0
    simp only [a0, a1, a2, a3, a4, a5, b0, b1, b2, b3, b4, b5, some_int, exists_eq', true_and]
    refine ⟨by omega, fun h0 h1 h2 h3 h4 h5 => ⟨by omega, fun h6 h7 h8 h9 h10 h11 => ?_⟩⟩
    simp only [← h0, ← h1, ← h2, ← h3, ← h4, ← h5, ← h6, ← h7, ← h8, ← h9, ← h10, ← h11, Ex.eqQ_eq]
    refine ⟨fun hne => ⟨rfl, .inr ⟨by simp, _, List.mem_cons_of_mem _ (List.mem_singleton_self _), rfl, [], rfl, ⟨[2], rfl⟩, ⟨[], List.nodup_nil, trivial⟩, fun he => ?_⟩⟩, fun heq => ⟨rfl, .inl ⟨rfl, k + 1, ⟨by omega, hl, hm, ?_⟩, (by show A.length - (k + 1) < A.length - k; omega), ?_, [0, 1], by decide, rfl⟩⟩⟩
    · subst he
      simp at hne
    · have : A[k] = B[k] := (I.ext_iff' _ _).2 (by simpa using heq)
      rw [List.take_succ_eq_append_getElem hlt, List.take_succ_eq_append_getElem (by omega), ht, this]
    · rw [inc_i k (by omega)]; rfl
  · refine ⟨rfl, .inr ⟨by simp, _, List.mem_cons_self, rfl, [], rfl, ⟨[], rfl⟩, ⟨[], List.nodup_nil, trivial⟩, ?_⟩⟩
    have : k = A.length := by omega
    subst this
    rw [List.take_length, hl, List.take_length] at ht
    exact ht

theorem ctxS_holds (ga gb ca cb : Nat) (A B : List I) : (ctxS ga gb ca cb A B).holds Try.prog := Sy.mkS_holds (fun _ h => (by cases h)) (fun p hp a L => by
  rcases List.mem_singleton.1 hp with rfl
  exact loopS_met ga gb ca cb A B) (fun _ h => (by cases h))

theorem ne_t (a b : Int) : ((!Ex.eqQ a b) = true) = ¬ (a = b) := by rw [Ex.eqQ_eq]; simp
theorem ne_f (a b : Int) : ((!Ex.eqQ a b) = false) = (a = b) := by rw [Ex.eqQ_eq]; simp

theorem sameC_met (ga gb ca cb : Nat) (A B : List I) : Sy.Meets Try.prog (sameC ga gb ca cb A B) := by
  refine Sy.meets_of (ctxS_holds ga gb ca cb A B) mixed (same_run ga gb ca cb A B) fun hok ns => ?_
  simp only [same_R, Sy.Res.holds, ne_t, ne_f]
  refine ⟨fun hne => Sy.plainO_leaf (List.mem_singleton_self _) rfl ?_, fun he => ⟨⟨by omega, hok⟩, fun h => Sy.plainO_leaf (List.mem_singleton_self _) rfl ?_, fun h => Sy.plainO_leaf (List.mem_singleton_self _) rfl ?_⟩⟩
  · rw [decide_eq_false (fun h => hne (by rw [h]))]
  · rw [decide_eq_true h]
  · rw [decide_eq_false h]

end Go.Proofs.Ytgaejhhipnpopaa
