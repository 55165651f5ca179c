/-
  Address, of both: its contracts.
-/
import Derived.Test.YtgaejhhipnpopaaLwI
namespace Go.Proofs.Ytgaejhhipnpopaa
set_option linter.unusedVariables false
set_option linter.unusedSimpArgs false
open Go Go.RowKit
open Sy (Let Blk)

instance (n : Int) : Decidable (isPow n) := by unfold isPow; infer_instance
theorem pow_tab : ∀ n : Nat, n < 1025 → 0 < n → (Ex.andQ .i64 (n : Int) (Ex.wrapQ .i64 (Ex.subQ' (n : Int) 1)) = 0 ↔ isPow n) := by decide +kernel
theorem pow_iff {s : Int} (h0 : 0 < s) (h1 : s ≤ 1024) : Ex.andQ .i64 s (Ex.wrapQ .i64 (Ex.subQ' s 1)) = 0 ↔ isPow s := by
  obtain ⟨n, rfl⟩ : ∃ n : Nat, s = n := ⟨s.toNat, by omega⟩
  exact pow_tab n (by omega) (by omega)
theorem isPow.bound {s : Int} (h : isPow s) : 1 ≤ s ∧ s ≤ 1024 := by unfold isPow at h; omega

/-- All that must be, ahead of the registers. -/
def geoOk (b s : Int) (l : List Nd) (k : Int) : Prop := (isPow s ∧ 0 ≤ b ∧ b ≤ 4096 - s) ∧ (0 ≤ k ∧ k < 5) ∧ isExpr 24 l
def need2 (l : List Nd) : Int := if (tr l (l.length - 1)).needs < 2 then 2 else ((tr l (l.length - 1)).needs : Int)
def aBad (b s : Int) (l : List Nd) (k : Int) : Prop := ¬ geoOk b s l k
def aReg (b s : Int) (l : List Nd) (k : Int) : Prop := geoOk b s l k ∧ 5 < k + need2 l
def aOk (b s : Int) (l : List Nd) (k : Int) : Prop := geoOk b s l k ∧ k + need2 l ≤ 5
noncomputable def addrL (b s : Int) (l : List Nd) (k : Int) : List I :=
  lay (tr l (l.length - 1)) (24 + k) ++ (numL (24 + k + 1) (s - 1) ++ (⟨5, 24 + k, 24 + k, 24 + k + 1, 0, 0⟩ :: ⟨14, 24 + k, 24 + k, 0, 3, 0⟩ :: (numL 29 (65536 + 8 * b) ++ [⟨3, 29, 29, 24 + k, 0, 0⟩])))

noncomputable def adBad (f : FuncId) (args : Array Value) (g o : Nat) (l : List Nd) (b s k : Int) : Sy.CallC := ⟨f, args, lenOk l ∧ aBad b s l k, ⟨[(g, .seg o (ndCells l))], [], 0⟩, [Sy.plainO (.tuple #[.slice none 0 0, .int .i64 1])]⟩
noncomputable def adReg (f : FuncId) (args : Array Value) (g o : Nat) (l : List Nd) (b s k : Int) : Sy.CallC := ⟨f, args, lenOk l ∧ aReg b s l k, ⟨[(g, .seg o (ndCells l))], [], 0⟩, [Sy.plainO (.tuple #[.slice none 0 0, .int .i64 30])]⟩
noncomputable def adOk (f : FuncId) (args : Array Value) (g o : Nat) (l : List Nd) (b s k : Int) : Sy.CallC := ⟨f, args, lenOk l ∧ aOk b s l k, ⟨[(g, .seg o (ndCells l))], [], 2⟩, [Sy.rowO tI 6 (addrL b s l k).length (insCells (addrL b s l k)) fun v => .tuple #[v, .int .i64 0]]⟩

theorem wU {a : Int} (h0 : 0 ≤ a) (h1 : a < 1000000) : Ex.wrapQ .u64 a = a := wrapU h0 (by omega)
theorem place_q {b : Int} (h0 : 0 ≤ b) (h1 : b ≤ 4096) : Ex.wrapQ .u64 (Ex.wrapQ .i64 (Ex.addQ 65536 (Ex.wrapQ .i64 (Ex.mulQ 8 b)))) = 65536 + 8 * b := by
  have e : Ex.wrapQ .i64 (Ex.mulQ 8 b) = 8 * b := by rw [Ex.mulQ_eq]; exact wrap_small (by omega) (by omega)
  rw [e, add_small (by omega) (by omega), wU (by omega) (by omega)]
theorem sub_small {a b : Int} (h0 : 0 ≤ a - b) (h1 : a - b < 1000000) : Ex.wrapQ .i64 (Ex.subQ' a b) = a - b := by
  rw [Ex.wrapQ_eq, Ex.subQ_eq]
  simp [IntKind.wrap, IntKind.signed, IntKind.bits]
  omega
theorem low_q {s : Int} (h0 : 1 ≤ s) (h1 : s ≤ 1024) : Ex.wrapQ .u64 (Ex.wrapQ .i64 (Ex.subQ' s 1)) = s - 1 := by
  rw [sub_small (by omega) (by omega), wU (by omega) (by omega)]
theorem need2_pos (l : List Nd) : 2 ≤ need2 l ∧ ((tr l (l.length - 1)).needs : Int) ≤ need2 l := by unfold need2; split <;> omega
theorem max1 {s : Int} (h : 1 ≤ s) : (bif Ex.ltQ 1 s then s else 1) = s := by
  cases hc : Ex.ltQ 1 s
  · have := (Sy.b_f (b := Ex.ltQ 1 s)).symm ▸ hc
    rw [Ex.ltQ_eq] at hc
    simp at hc
    simp
    omega
  · rfl

theorem numE (r v : Int) : (I.mk 1 r 0 0 (v % 65536) 0 :: (movk r (v / 65536 % 65536) 1 ++ (movk r (v / 4294967296 % 65536) 2 ++ movk r (v / 281474976710656 % 65536) 3))) = numL r v := rfl

theorem ctxI_holds (s k : Int) (g o c : Nat) (l : List Nd) : (ctxI s k g o c l).holds Try.prog := Sy.mkS_holds (fun p hp a L => by
  rcases List.mem_cons.1 hp with rfl | hp
  · exact mayC_met _ _ _ _
  rcases List.mem_cons.1 hp with rfl | hp
  · exact needsC_met _ _ _ _ _ _ _
  rcases List.mem_cons.1 hp with rfl | hp
  · exact exprC_met _ _ _ _ _ _ _
  rcases List.mem_cons.1 hp with rfl | hp
  · exact rxC_met _ _ _ _ _
  rcases List.mem_cons.1 hp with rfl | hp
  · exact rnC_met _ _ _ _
  rcases List.mem_cons.1 hp with rfl | hp
  · exact (rlay_met _ _ _ _ _).1 _ _
  rcases List.mem_cons.1 hp with rfl | hp
  · exact numC_met _ _
  rcases List.mem_cons.1 hp with rfl | hp
  · exact rnum0_met _ _
  rcases List.mem_cons.1 hp with rfl | hp
  · exact rnumA_met _ _ _ _ _ _
  rcases List.mem_cons.1 hp with rfl | hp
  · exact rnumA_met _ _ _ _ _ _
  rcases List.mem_singleton.1 hp with rfl
  exact pwC_met _) (fun _ h => (by cases h)) (fun _ h => (by cases h))

theorem max2 (l : List Nd) : (bif Ex.ltQ 2 ((tr l (l.length - 1)).needs : Int) then ((tr l (l.length - 1)).needs : Int) else 2) = need2 l := by
  unfold need2
  generalize ((tr l (l.length - 1)).needs) = n
  cases hc : Ex.ltQ 2 (n : Int)
  · rw [Ex.ltQ_eq] at hc
    simp at hc
    simp
    omega
  · rw [Ex.ltQ_eq] at hc
    simp at hc
    simp
    omega

theorem adP_bad (g o c : Nat) (l : List Nd) (b k : Int) (p : Nat) : Sy.Meets Try.prog (adBad fAd (adArgs g o c l b (.ofNat (.succ p)) k) g o l b (.ofNat (.succ p)) k) := by
  refine Sy.meets_of (ctxI_holds _ _ _ _ _ _) mixed (adP_run g o c l b k p) fun hok ns => ?_
  obtain ⟨hl, hb⟩ : lenOk l ∧ aBad b (.ofNat (.succ p)) l k := hok
  have hp : (0 : Int) < .ofNat (.succ p) := by show (0 : Int) < ((p + 1 : Nat) : Int); omega
  simp only [adP_R]
  generalize Int.ofNat (Nat.succ p) = s at *
  have h0 := hl.1.1
  have leaf : ∀ L, Sy.leafC (adBad fAd (adArgs g o c l b s k) g o l b s k) (.tuple #[.slice none 0 0, .int .i64 1], L) := fun L => Sy.plainO_leaf (List.mem_singleton_self _) rfl rfl
  simp only [Sy.Res.holds, Sy.b_and, Sy.b_or, Sy.b_not, Sy.b_f, Sy.b_and', Sy.b_or', Sy.q_lt, Sy.q_le, Sy.q_eq, Sy.b_tt, Sy.b_ft, not_true_eq_false, not_false_eq_true, some_int, some_bool, exists_eq', true_and, tru_t, leftE hl, Int.toNat_natCast, false_or, max1 (show 1 ≤ s by omega)]
  refine ⟨fun _ => leaf _, fun c1 => ⟨fun _ => leaf _, fun c2 => ⟨fun _ => leaf _, fun c3 => ⟨fun _ => leaf _, fun c4 => ⟨fun _ => leaf _, fun c5 => ⟨fun _ => leaf _, fun c6 => ⟨hl.1, fun _ => ⟨fun _ => leaf _, fun c7 => ?_⟩⟩⟩⟩⟩⟩⟩⟩
  rw [sub_small (by omega) (by omega)] at c4
  exact absurd ⟨⟨(pow_iff hp (by omega)).1 (Classical.byContradiction c2), by omega, by omega⟩, by omega, Classical.byContradiction c7⟩ hb

theorem adP_reg (g o c : Nat) (l : List Nd) (b k : Int) (p : Nat) : Sy.Meets Try.prog (adReg fAd (adArgs g o c l b (.ofNat (.succ p)) k) g o l b (.ofNat (.succ p)) k) := by
  refine Sy.meets_of (ctxI_holds _ _ _ _ _ _) mixed (adP_run g o c l b k p) fun hok ns => ?_
  obtain ⟨hl, ⟨⟨hq, hb0, hb1⟩, hk, hE⟩, hr⟩ : lenOk l ∧ aReg b (.ofNat (.succ p)) l k := hok
  have hp : (0 : Int) < .ofNat (.succ p) := by show (0 : Int) < ((p + 1 : Nat) : Int); omega
  simp only [adP_R]
  generalize Int.ofNat (Nat.succ p) = s at *
  have hs := hq.bound
  have h0 := hl.1.1
  have hm := hE.2.2.1
  have hx := tr_small hE (i := l.length - 1) (by omega)
  have hn := (tr l (l.length - 1)).needs_le
  have h2 : need2 l ≤ 65536 := by unfold need2; split <;> omega
  have h3 := need2_pos l
  have leaf : ∀ L, Sy.leafC (adReg fAd (adArgs g o c l b s k) g o l b s k) (.tuple #[.slice none 0 0, .int .i64 30], L) := fun L => Sy.plainO_leaf (List.mem_singleton_self _) rfl rfl
  simp only [Sy.Res.holds, Sy.b_and, Sy.b_or, Sy.b_not, Sy.b_f, Sy.b_and', Sy.b_or', Sy.q_lt, Sy.q_le, Sy.q_eq, Sy.b_tt, Sy.b_ft, not_true_eq_false, not_false_eq_true, some_int, some_bool, exists_eq', true_and, tru_t, leftE hl, Int.toNat_natCast, false_or, max1 (show 1 ≤ s by omega), max2, place_q hb0 (show b ≤ 4096 by omega), low_q hs.1 hs.2, sub_small (a := 4096) (b := s) (by omega) (by omega), (pow_iff hp hs.2).2 hq, add_small (a := k) (b := need2 l) (by omega) (by omega)]
  refine ⟨fun h => absurd h (by omega), fun _ => ⟨fun h => h.elim, fun _ => ⟨fun h => absurd h (by omega), fun _ => ⟨fun h => absurd h (by omega), fun _ => ⟨fun h => absurd h (by omega), fun _ => ⟨fun h => absurd h (by omega), fun _ => ⟨hl.1, fun _ => ⟨fun h => absurd hE h, fun _ => ?_⟩⟩⟩⟩⟩⟩⟩⟩
  refine ⟨by omega, fun _ => ⟨⟨hE, by omega, by omega, by omega⟩, fun _ => ⟨fun _ => leaf _, fun h => absurd hr h⟩⟩⟩

theorem adP_ok (g o c : Nat) (l : List Nd) (b k : Int) (p : Nat) : Sy.Meets Try.prog (adOk fAd (adArgs g o c l b (.ofNat (.succ p)) k) g o l b (.ofNat (.succ p)) k) := by
  refine Sy.meets_of (ctxI_holds _ _ _ _ _ _) mixed (adP_run g o c l b k p) fun hok ns => ?_
  obtain ⟨hl, ⟨⟨hq, hb0, hb1⟩, hk, hE⟩, hr⟩ : lenOk l ∧ aOk b (.ofNat (.succ p)) l k := hok
  have hp : (0 : Int) < .ofNat (.succ p) := by show (0 : Int) < ((p + 1 : Nat) : Int); omega
  simp only [adP_R]
  generalize Int.ofNat (Nat.succ p) = s at *
  have hs := hq.bound
  have h0 := hl.1.1
  have hm := hE.2.2.1
  have h3 := need2_pos l
  have hf := lay_fits hE (i := l.length - 1) (by omega) (24 + k)
  have hn1 := numL_le (24 + k + 1) (s - 1)
  have hn2 := numL_le 29 (65536 + 8 * b)
  have hq1 := numL_pos (24 + k + 1) (s - 1)
  have hq2 := numL_pos 29 (65536 + 8 * b)
  have hnp := (tr l (l.length - 1)).needs_pos
  have hlen : (addrL b s l k).length = (lay (tr l (l.length - 1)) (24 + k)).length + ((numL (24 + k + 1) (s - 1)).length + ((numL 29 (65536 + 8 * b)).length + 3)) := by
    simp only [addrL, List.length_append, List.length_cons, List.length_nil]
  have hcs : insCells (addrL b s l k) = insCells (lay (tr l (l.length - 1)) (24 + k)) ++ (insCells (numL (24 + k + 1) (s - 1)) ++ ((I.mk 5 (24 + k) (24 + k) (24 + k + 1) 0 0).cells ++ ((I.mk 14 (24 + k) (24 + k) 0 3 0).cells ++ (insCells (numL 29 (65536 + 8 * b)) ++ (I.mk 3 29 29 (24 + k) 0 0).cells)))) := by
    simp [addrL, insCells]
  simp only [Sy.Res.holds, Sy.b_and, Sy.b_or, Sy.b_not, Sy.b_f, Sy.b_and', Sy.b_or', Sy.q_lt, Sy.q_le, Sy.q_eq, Sy.b_tt, Sy.b_ft, not_true_eq_false, not_false_eq_true, some_int, some_bool, exists_eq', true_and, tru_t, leftE hl, Int.toNat_natCast, false_or, max1 (show 1 ≤ s by omega), max2, place_q hb0 (show b ≤ 4096 by omega), low_q hs.1 hs.2, sub_small (a := 4096) (b := s) (by omega) (by omega), (pow_iff hp hs.2).2 hq, add_small (a := k) (b := need2 l) (by omega) (by omega), add_small (a := 24) (b := k) (by omega) (by omega), add_small (a := 24 + k) (b := 1) (by omega) (by omega)]
  refine ⟨fun h => absurd h (by omega), fun _ => ⟨fun h => h.elim, fun _ => ⟨fun h => absurd h (by omega), fun _ => ⟨fun h => absurd h (by omega), fun _ => ⟨fun h => absurd h (by omega), fun _ => ⟨fun h => absurd h (by omega), fun _ => ⟨hl.1, fun _ => ⟨fun h => absurd hE h, fun _ => ?_⟩⟩⟩⟩⟩⟩⟩⟩
  refine ⟨by omega, fun _ => ⟨⟨hE, by omega, by omega, by omega⟩, fun _ => ⟨fun h => absurd h (by omega), fun _ => ?_⟩⟩⟩
  generalize lay (tr l (l.length - 1)) (24 + k) = A at *
  generalize numL (24 + k + 1) (s - 1) = B at *
  generalize numL 29 (65536 + 8 * b) = C at *
  have hA := insC_len A
  have hB := insC_len B
  have hC := insC_len C
  refine ⟨⟨⟨hE, hl.2⟩, by omega, by omega, by omega, by omega, by omega⟩, fun _ => ⟨by omega, fun _ => ⟨⟨hA, insC_one _⟩, by omega, by omega, by omega, fun _ => ⟨⟨hB, insC_one _⟩, by omega, by omega, fun _ => ⟨by omega, by omega, fun _ => ⟨by omega, by omega, fun _ => ⟨⟨hC, insC_one _⟩, by omega, by omega, fun _ => ⟨by omega, by omega, fun hc => ?_⟩⟩⟩⟩⟩⟩⟩⟩
  refine Sy.rowO_leaf' (List.mem_singleton_self _) rfl 0 rfl rfl ?_ ?_ hc
  · rw [hlen]; omega
  · rw [hcs]; simp [I.cells]

theorem radP_bad (g o c : Nat) (l : List Nd) (b k : Int) (p : Nat) : Sy.Meets Try.prog (adBad fRAd (radArgs g o c l b (.ofNat (.succ p)) k) g o l b (.ofNat (.succ p)) k) := by
  refine Sy.meets_of (ctxI_holds _ _ _ _ _ _) mixed (radP_run g o c l b k p) fun hok ns => ?_
  obtain ⟨hl, hb⟩ : lenOk l ∧ aBad b (.ofNat (.succ p)) l k := hok
  have hp : (0 : Int) < .ofNat (.succ p) := by show (0 : Int) < ((p + 1 : Nat) : Int); omega
  simp only [radP_R]
  generalize Int.ofNat (Nat.succ p) = s at *
  have h0 := hl.1.1
  have leaf : ∀ L, Sy.leafC (adBad fRAd (radArgs g o c l b s k) g o l b s k) (.tuple #[.slice none 0 0, .int .i64 1], L) := fun L => Sy.plainO_leaf (List.mem_singleton_self _) rfl rfl
  simp only [Sy.Res.holds, Sy.b_and, Sy.b_or, Sy.b_not, Sy.b_f, Sy.b_and', Sy.b_or', Sy.q_lt, Sy.q_le, Sy.q_eq, Sy.b_tt, Sy.b_ft, not_true_eq_false, not_false_eq_true, some_int, some_bool, exists_eq', true_and, tru_t, leftE hl, Int.toNat_natCast, false_or]
  have fin : isPow s → ¬ b < 0 → ¬ Ex.wrapQ .i64 (Ex.subQ' 4096 s) < b → ¬ k < 0 → ¬ 4 < k → ¬ ¬ isExpr 24 l → False := fun c2 c3 c4 c5 c6 c7 => by
    have := c2.bound
    rw [sub_small (by omega) (by omega)] at c4
    exact absurd ⟨⟨c2, by omega, by omega⟩, by omega, Classical.byContradiction c7⟩ hb
  refine ⟨fun _ => fun _ => ⟨fun _ => leaf _, fun c2 => ⟨fun _ => leaf _, fun c3 => ⟨fun _ => leaf _, fun c4 => ⟨fun _ => leaf _, fun c5 => ⟨fun _ => leaf _, fun c6 => ⟨⟨⟨by omega, by omega, hl.2⟩, h0⟩, fun _ => ⟨fun _ => leaf _, fun c7 => ?_⟩⟩⟩⟩⟩⟩⟩, fun c2 => ⟨fun _ => leaf _, fun c3 => ⟨fun _ => leaf _, fun c4 => ⟨fun _ => leaf _, fun c5 => ⟨fun _ => leaf _, fun c6 => ⟨⟨⟨by omega, by omega, hl.2⟩, h0⟩, fun _ => ⟨fun _ => leaf _, fun c7 => ?_⟩⟩⟩⟩⟩⟩⟩
  · exact (fin (Classical.byContradiction c2) c3 c4 c5 c6 c7).elim
  · exact (fin (by unfold isPow; omega) c3 c4 c5 c6 c7).elim

theorem radP_reg (g o c : Nat) (l : List Nd) (b k : Int) (p : Nat) : Sy.Meets Try.prog (adReg fRAd (radArgs g o c l b (.ofNat (.succ p)) k) g o l b (.ofNat (.succ p)) k) := by
  refine Sy.meets_of (ctxI_holds _ _ _ _ _ _) mixed (radP_run g o c l b k p) fun hok ns => ?_
  obtain ⟨hl, ⟨⟨hq, hb0, hb1⟩, hk, hE⟩, hr⟩ : lenOk l ∧ aReg b (.ofNat (.succ p)) l k := hok
  have hp : (0 : Int) < .ofNat (.succ p) := by show (0 : Int) < ((p + 1 : Nat) : Int); omega
  simp only [radP_R]
  generalize Int.ofNat (Nat.succ p) = s at *
  have hs := hq.bound
  have h0 := hl.1.1
  have hm := hE.2.2.1
  have hx := tr_small hE (i := l.length - 1) (by omega)
  have hn := (tr l (l.length - 1)).needs_le
  have h2 : need2 l ≤ 65536 := by unfold need2; split <;> omega
  have h3 := need2_pos l
  have leaf : ∀ L, Sy.leafC (adReg fRAd (radArgs g o c l b s k) g o l b s k) (.tuple #[.slice none 0 0, .int .i64 30], L) := fun L => Sy.plainO_leaf (List.mem_singleton_self _) rfl rfl
  simp only [Sy.Res.holds, Sy.b_and, Sy.b_or, Sy.b_not, Sy.b_f, Sy.b_and', Sy.b_or', Sy.q_lt, Sy.q_le, Sy.q_eq, Sy.b_tt, Sy.b_ft, not_true_eq_false, not_false_eq_true, some_int, some_bool, exists_eq', true_and, tru_t, leftE hl, Int.toNat_natCast, false_or, sub_small (a := 4096) (b := s) (by omega) (by omega), add_small (a := k) (b := 2) (by omega) (by omega), add_small (a := k) (b := ((tr l (l.length - 1)).needs : Int)) (by omega) (by omega)]
  refine ⟨fun _ => fun _ => ⟨fun h => absurd hq h, fun _ => ⟨fun h => absurd h (by omega), fun _ => ⟨fun h => absurd h (by omega), fun _ => ⟨fun h => absurd h (by omega), fun _ => ⟨fun h => absurd h (by omega), fun _ => ⟨⟨⟨by omega, by omega, hl.2⟩, h0⟩, fun _ => ⟨fun h => absurd hE h, fun _ => ⟨hE, fun _ => ⟨fun u => ⟨fun _ => leaf _, fun h => absurd h (by unfold need2 at hr; rw [if_pos (by omega)] at hr; omega)⟩, fun u => ⟨fun _ => leaf _, fun h => absurd h (by unfold need2 at hr; rw [if_neg (by omega)] at hr; omega)⟩⟩⟩⟩⟩⟩⟩⟩⟩⟩, fun _ => ⟨fun h => absurd h (by omega), fun _ => ⟨fun h => absurd h (by omega), fun _ => ⟨fun h => absurd h (by omega), fun _ => ⟨fun h => absurd h (by omega), fun _ => ⟨⟨⟨by omega, by omega, hl.2⟩, h0⟩, fun _ => ⟨fun h => absurd hE h, fun _ => ⟨hE, fun _ => ⟨fun u => ⟨fun _ => leaf _, fun h => absurd h (by unfold need2 at hr; rw [if_pos (by omega)] at hr; omega)⟩, fun u => ⟨fun _ => leaf _, fun h => absurd h (by unfold need2 at hr; rw [if_neg (by omega)] at hr; omega)⟩⟩⟩⟩⟩⟩⟩⟩⟩⟩

theorem radP_ok (g o c : Nat) (l : List Nd) (b k : Int) (p : Nat) : Sy.Meets Try.prog (adOk fRAd (radArgs g o c l b (.ofNat (.succ p)) k) g o l b (.ofNat (.succ p)) k) := by
  refine Sy.meets_of (ctxI_holds _ _ _ _ _ _) mixed (radP_run g o c l b k p) fun hok ns => ?_
  obtain ⟨hl, ⟨⟨hq, hb0, hb1⟩, hk, hE⟩, hr⟩ : lenOk l ∧ aOk b (.ofNat (.succ p)) l k := hok
  have hp : (0 : Int) < .ofNat (.succ p) := by show (0 : Int) < ((p + 1 : Nat) : Int); omega
  simp only [radP_R]
  generalize Int.ofNat (Nat.succ p) = s at *
  have hs := hq.bound
  have h0 := hl.1.1
  have hm := hE.2.2.1
  have h3 := need2_pos l
  have hx := tr_small hE (i := l.length - 1) (by omega)
  have hn := (tr l (l.length - 1)).needs_le
  have hf := lay_fits hE (i := l.length - 1) (by omega) (24 + k)
  have hn1 := numL_le (24 + k + 1) (s - 1)
  have hn2 := numL_le 29 (65536 + 8 * b)
  have hq1 := numL_pos (24 + k + 1) (s - 1)
  have hq2 := numL_pos 29 (65536 + 8 * b)
  have hnp := (tr l (l.length - 1)).needs_pos
  have hlen : (addrL b s l k).length = (lay (tr l (l.length - 1)) (24 + k)).length + ((numL (24 + k + 1) (s - 1)).length + ((numL 29 (65536 + 8 * b)).length + 3)) := by
    simp only [addrL, List.length_append, List.length_cons, List.length_nil]
  have hcs : insCells (addrL b s l k) = insCells (lay (tr l (l.length - 1)) (24 + k)) ++ (insCells (numL (24 + k + 1) (s - 1)) ++ ((I.mk 5 (24 + k) (24 + k) (24 + k + 1) 0 0).cells ++ ((I.mk 14 (24 + k) (24 + k) 0 3 0).cells ++ (insCells (numL 29 (65536 + 8 * b)) ++ (I.mk 3 29 29 (24 + k) 0 0).cells)))) := by
    simp [addrL, insCells]
  have hgo1 : goodU (s - 1) := by unfold goodU; omega
  have hgo2 : goodU (65536 + 8 * b) := by unfold goodU; omega
  simp only [Sy.Res.holds, Sy.b_and, Sy.b_or, Sy.b_not, Sy.b_f, Sy.b_and', Sy.b_or', Sy.q_lt, Sy.q_le, Sy.q_eq, Sy.b_tt, Sy.b_ft, not_true_eq_false, not_false_eq_true, some_int, some_bool, exists_eq', true_and, tru_t, leftE hl, Int.toNat_natCast, false_or, sub_small (a := 4096) (b := s) (by omega) (by omega), add_small (a := k) (b := 2) (by omega) (by omega), add_small (a := k) (b := ((tr l (l.length - 1)).needs : Int)) (by omega) (by omega), place_q hb0 (show b ≤ 4096 by omega), low_q hs.1 hs.2, add_small (a := 24) (b := k) (by omega) (by omega), add_small (a := 24 + k) (b := 1) (by omega) (by omega)]
  refine ⟨fun _ => fun _ => ⟨fun h => absurd hq h, fun _ => ⟨fun h => absurd h (by omega), fun _ => ⟨fun h => absurd h (by omega), fun _ => ⟨fun h => absurd h (by omega), fun _ => ⟨fun h => absurd h (by omega), fun _ => ⟨⟨⟨by omega, by omega, hl.2⟩, h0⟩, fun _ => ⟨fun h => absurd hE h, fun _ => ⟨hE, fun _ => ⟨fun u => ⟨fun h => absurd h (by omega), fun _ => ?_⟩, fun u => ⟨fun h => absurd h (by omega), fun _ => ?_⟩⟩⟩⟩⟩⟩⟩⟩⟩⟩, fun _ => ⟨fun h => absurd h (by omega), fun _ => ⟨fun h => absurd h (by omega), fun _ => ⟨fun h => absurd h (by omega), fun _ => ⟨fun h => absurd h (by omega), fun _ => ⟨⟨⟨by omega, by omega, hl.2⟩, h0⟩, fun _ => ⟨fun h => absurd hE h, fun _ => ⟨hE, fun _ => ⟨fun u => ⟨fun h => absurd h (by omega), fun _ => ?_⟩, fun u => ⟨fun h => absurd h (by omega), fun _ => ?_⟩⟩⟩⟩⟩⟩⟩⟩⟩⟩
  all_goals
    simp only [numE]
    generalize lay (tr l (l.length - 1)) (24 + k) = A at *
    generalize numL (24 + k + 1) (s - 1) = B at *
    generalize numL 29 (65536 + 8 * b) = C at *
    refine ⟨⟨⟨hE, hl.2⟩, by omega, by omega, by omega, by omega, by omega⟩, fun _ => ⟨⟨hgo1, by omega⟩, fun _ => ⟨by omega, by omega, fun _ => ⟨⟨hgo2, by omega⟩, fun _ => ⟨by omega, by omega, fun hc => ?_⟩⟩⟩⟩⟩
    refine Sy.rowO_leaf' (List.mem_singleton_self _) rfl 0 rfl rfl ?_ ?_ hc
    · rw [hlen]; omega
    · rw [hcs]; simp [I.cells]

end Go.Proofs.Ytgaejhhipnpopaa
