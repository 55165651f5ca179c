/-
  LowerValues: its loops; an expression's value, by the reference.
-/
import Derived.Test.YtgaejhhipnpopaaLwVa
import Derived.Test.YtgaejhhipnpopaaLwVp
namespace Go.Proofs.Ytgaejhhipnpopaa
set_option linter.unusedVariables false
set_option linter.unusedSimpArgs false
open Go Go.RowKit
open Sy (Let Blk)

theorem rem_nat (i m : Nat) : Ex.remQ (i : Int) (Nat.succ m) = ((i % (m + 1) : Nat) : Int) := by rw [Ex.remQ_eq]; rfl
theorem quo_nat (i m : Nat) : Ex.quoQ (i : Int) (Nat.succ m) = ((i / (m + 1) : Nat) : Int) := by rw [Ex.quoQ_eq]; rfl
theorem rem64 {b : Int} (h : 0 ≤ b) : Ex.remQ b (nat_lit 64) = b % 64 := by rw [Ex.remQ_eq]; exact Int.tmod_eq_emod_of_nonneg h
theorem half {a : Int} (h : 0 ≤ a) : Ex.quoQ a (nat_lit 2) = a / 2 := by rw [Ex.quoQ_eq]; exact Int.tdiv_eq_ediv_of_nonneg h

/-- Registers out of numbers: the first i of them. -/
def rv (l : List Int) (m j : Nat) : Int := Ex.wrapQ .u64 (Ex.addQ (l.getD (j % (m + 1)) 0) (Ex.wrapQ .u64 (Ex.wrapQ .i64 (Ex.quoQ (j : Int) (Nat.succ m)))))
def regsAt (l : List Int) (m i : Nat) : List Int := (List.range 34).map fun j => if j < i then rv l m j else 0
theorem regsAt_len (l : List Int) (m i : Nat) : (regsAt l m i).length = 34 := by simp [regsAt]
theorem regsAt_zero (l : List Int) (m : Nat) : regsAt l m 0 = zerosR := by
  unfold regsAt
  simp only [Nat.not_lt_zero, if_false]
  rfl
theorem regsAt_set {l : List Int} {m i : Nat} (h : i < 34) : (regsAt l m i).set i (rv l m i) = regsAt l m (i + 1) := by
  apply List.ext_getElem
  · simp [regsAt]
  · intro j h1 h2
    have hj : j < 34 := by simpa [regsAt] using h2
    rw [List.getElem_set]
    simp only [regsAt, List.getElem_map, List.getElem_range]
    by_cases e : i = j
    · subst e; simp
    · rw [if_neg e]
      by_cases hlt : j < i
      · rw [if_pos hlt, if_pos (by omega)]
      · rw [if_neg hlt, if_neg (by omega)]
theorem regsAt_good (l : List Int) (m i : Nat) : goodLoc (regsAt l m i) := fun j hj => by
  have : (regsAt l m i).getD j 0 = if j < i then rv l m j else 0 := by simp [regsAt, List.getD_eq_getElem?_getD, show j < 34 by omega]
  rw [this]
  split
  · exact wrap_good _
  · unfold goodU; omega

theorem num8_at {l : List Int} {j : Nat} (h : j < l.length) (o : Nat) : (Sy.Cont.seg o (numC8 l)).at (o + j * 1) = some (.int .u64 (l.getD j 0)) := by
  simp only [Sy.Cont.at]
  rw [if_pos (by omega), show o + j * 1 - o = j by omega]
  simp [numC8, h, List.getD_eq_getElem?_getD]

noncomputable def loopRg (g o c m gr g2 : Nat) (l : List Int) : Sy.LoopC :=
  ⟨.loop bodyRg, 31, slRg g o c m gr g2 0, l.length = m + 1, ⟨[(g, .seg o (numC8 l))], [(gr, regO zerosR)], 0⟩,
    [(⟨fun _ => True, fun _ => [(gr, regO (regsAt l m 31))]⟩, .exit 0, fun _ => [(2, .pointer (some ⟨g2, 0, none⟩)), (3, .pointer (some ⟨gr, 0, none⟩))])]⟩

theorem loopRg_met (g o c m gr g2 : Nat) (l : List Int) : Sy.MeetsL Try.prog (loopRg g o c m gr g2 l) := by
  refine Sy.loop_of (n := 60) (fn := fRegs) Sy.S0_holds mixed (body := bodyRg) rfl [0, 2, 3, 4] (fun i : Nat => slRg g o c m gr g2 i) (fun i => memRg g o gr (numC8 l) (regsAt l m i))
    (fun i => i ≤ 31) (fun i => 31 - i)
    0 (fun _ => Nat.zero_le _) (fun p hp => hp) [0, 1] (by decide) (by rw [regsAt_zero]; rfl) (o := fun _ => rg_o) (R := fun i rest => rg_R g o c m gr g2 i (numC8 l) (regsAt l m i) rest) (fun i rest _ => rg_run g o c m gr g2 i (numC8 l) (regsAt l m i) rest) ?_
  rintro hok i rest hi ns
  have hm : l.length = m + 1 := hok
  simp only [rg_R, Sy.Res.holds, Sy.b_and, Sy.b_or, Sy.b_not, Sy.b_f, Sy.b_and', Sy.b_or', Sy.q_lt, Sy.q_le, Sy.q_eq, Sy.b_tt, Sy.b_ft, not_true_eq_false, not_false_eq_true, rem_nat, Int.toNat_natCast, and_true]
  have hlt' : i % (m + 1) < m + 1 := Nat.mod_lt _ (by omega)
  refine ⟨fun hlt => ?_, fun hge => ?_⟩
  · have ea := num8_at (l := l) (j := i % (m + 1)) (by omega) o
    simp only [ea, some_int, some_bool, exists_eq', true_and]
    refine ⟨⟨Int.natCast_nonneg _, by exact_mod_cast hlt'⟩, fun h0 => ⟨by omega, by rw [regA_size, regsAt_len]; omega, ?_⟩⟩
    rw [← h0]
    have hset : (regA (regsAt l m i)).setIfInBounds (0 + i * 1) (.int .u64 (Ex.wrapQ .u64 (Ex.addQ (l.getD (i % (m + 1)) 0) (Ex.wrapQ .u64 (Ex.wrapQ .i64 (Ex.quoQ (i : Int) (Nat.succ m))))))) = regA (regsAt l m (i + 1)) := by
      rw [regA_set, show 0 + i * 1 = i by omega]
      exact congrArg regA (regsAt_set (by omega))
    rw [hset]
    exact Sy.leafL_next (i + 1) rfl (show i + 1 ≤ 31 by omega) (by show 31 - (i + 1) < 31 - i; omega) (by rw [Sy.inc_q i (by omega)]; rfl) [0, 1] (by decide) rfl
  · have : i = 31 := by omega
    subst this
    exact Sy.leafL_end 0 rfl rfl (by simp) rfl [] rfl [1, 2] rfl [1] (by decide) ⟨⟨rfl, rfl, .inl rfl⟩, trivial⟩ trivial

/-- Are all registers as they were, but for the temporaries from k on and those from 29 to below e? -/
def keptP (xs ys : List Int) (k e : Int) : Prop := ∀ i : Nat, i < 31 → xs.getD i 0 ≠ ys.getD i 0 → ¬ ((i : Int) < 24 + k ∨ (29 ≤ (i : Int) ∧ e ≤ i))
noncomputable def loopKp (gr gs : Nat) (k e : Int) (xs ys : List Int) : Sy.LoopC :=
  ⟨.loop bodyKp, 38, slKp gr gs k e 0, (xs.length = 34 ∧ ys.length = 34) ∧ 0 ≤ k ∧ k < 5, ⟨[(gr, regO xs), (gs, regO ys)], [], 0⟩,
    [(⟨fun _ => keptP xs ys k e, fun _ => []⟩, .exit 0, fun _ => []), (⟨fun _ => ¬ keptP xs ys k e, fun _ => []⟩, .ret, fun _ => [(8, .bool false)])]⟩
theorem loopKp_met (gr gs : Nat) (k e : Int) (xs ys : List Int) : Sy.MeetsL Try.prog (loopKp gr gs k e xs ys) := by
  refine Sy.loop_of (n := 60) (fn := fKept) Sy.S0_holds mixed (body := bodyKp) rfl [2, 3, 4, 5, 8, 9] (fun i : Nat => slKp gr gs k e i) (fun _ => [⟨gr, regO xs, false⟩, ⟨gs, regO ys, false⟩])
    (fun i => i ≤ 31 ∧ ∀ j : Nat, j < i → xs.getD j 0 ≠ ys.getD j 0 → ¬ ((j : Int) < 24 + k ∨ (29 ≤ (j : Int) ∧ e ≤ j))) (fun i => 31 - i)
    0 (fun _ => ⟨Nat.zero_le _, fun j hj => absurd hj (Nat.not_lt_zero j)⟩) (fun p hp => hp) [0, 1] (by decide) rfl (o := fun _ => kp_o) (R := fun i rest => kp_R gr gs k e i xs ys rest) (fun i rest _ => kp_run gr gs k e i xs ys rest) ?_
  rintro ⟨⟨hx, hy⟩, hk⟩ i rest ⟨hi, hall⟩ ns
  simp only [kp_R, Sy.Res.holds, Sy.b_and, Sy.b_or, Sy.b_not, Sy.b_f, Sy.b_and', Sy.b_or', Sy.q_lt, Sy.q_le, Sy.q_eq, Sy.b_tt, Sy.b_ft, not_true_eq_false, not_false_eq_true, add_small (a := 24) (b := k) (by omega) (by omega), Int.toNat_natCast, Nat.zero_add, Nat.mul_one, regA_size, hx, hy, false_or, true_and]
  refine ⟨fun hlt => ?_, fun hge => ?_⟩
  · have ex := reg_at (xs := xs) (j := i) (by omega) tR (0, 0)
    have ey := reg_at (xs := ys) (j := i) (by omega) tR (0, 0)
    simp only [ex, ey, some_int, some_bool, exists_eq', true_and]
    refine ⟨by omega, fun h0 => ⟨by omega, fun h1 => ?_⟩⟩
    rw [← h0, ← h1]
    have next : (xs.getD i 0 ≠ ys.getD i 0 → ¬ ((i : Int) < 24 + k ∨ (29 ≤ (i : Int) ∧ e ≤ i))) → i + 1 ≤ 31 ∧ ∀ j : Nat, j < i + 1 → xs.getD j 0 ≠ ys.getD j 0 → ¬ ((j : Int) < 24 + k ∨ (29 ≤ (j : Int) ∧ e ≤ j)) := fun h => ⟨by omega, fun j hj => by
      rcases Nat.lt_succ_iff_lt_or_eq.1 hj with hj | rfl
      · exact hall j hj
      · exact h⟩
    have bad : xs.getD i 0 ≠ ys.getD i 0 → ((i : Int) < 24 + k ∨ (29 ≤ (i : Int) ∧ e ≤ i)) → ¬ keptP xs ys k e := fun d h h' => h' i (by omega) d h
    refine ⟨fun d => ⟨fun c2 => Sy.leafL_end 1 rfl rfl (by simp) rfl [] rfl [4] rfl [] List.nodup_nil trivial (bad d (.inl c2)), fun c2 => ⟨fun c3 => ⟨fun c4 => Sy.leafL_end 1 rfl rfl (by simp) rfl [] rfl [4] rfl [] List.nodup_nil trivial (bad d (.inr ⟨c3, c4⟩)), fun c4 => Sy.leafL_next (i + 1) rfl (next fun d => fun h => h.elim c2 fun h => c4 h.2) (by show 31 - (i + 1) < 31 - i; omega) (by rw [Sy.inc_q i (by omega)]; rfl) [0, 1] (by decide) rfl⟩, fun c3 => Sy.leafL_next (i + 1) rfl (next fun d => fun h => h.elim c2 fun h => c3 h.1) (by show 31 - (i + 1) < 31 - i; omega) (by rw [Sy.inc_q i (by omega)]; rfl) [0, 1] (by decide) rfl⟩⟩, fun d' => Sy.leafL_next (i + 1) rfl (next fun d => absurd d d') (by show 31 - (i + 1) < 31 - i; omega) (by rw [Sy.inc_q i (by omega)]; rfl) [0, 1] (by decide) rfl⟩
  · have : i = 31 := by omega
    subst this
    exact Sy.leafL_end 0 rfl rfl (by simp) rfl [] rfl [] rfl [] List.nodup_nil trivial hall

/-! The two loops of shifts. -/
theorem shl_ex (a b : Int) : ∃ v, v = a * 2 ^ (b % 64).toNat % 18446744073709551616 := ⟨_, rfl⟩
theorem shr_ex (a b : Int) : ∃ v, v = a / 2 ^ (b % 64).toNat := ⟨_, rfl⟩
noncomputable def shlV (a b : Int) : Int := (shl_ex a b).choose
noncomputable def shrV (a b : Int) : Int := (shr_ex a b).choose
theorem shlV_eq (a b : Int) : shlV a b = a * 2 ^ (b % 64).toNat % 18446744073709551616 := (shl_ex a b).choose_spec
theorem shrV_eq (a b : Int) : shrV a b = a / 2 ^ (b % 64).toNat := (shr_ex a b).choose_spec
noncomputable def loopS0 (V6 : Value) (a b : Int) : Sy.LoopC :=
  ⟨.loop bodyS0, 143, slS0 V6 a b 0, goodU a ∧ 0 ≤ b, ⟨[], [], 0⟩, [(⟨fun _ => True, fun _ => []⟩, .exit 2, fun _ => [(8, .int .u64 (shlV a b))])]⟩
noncomputable def loopS1 (V6 : Value) (a b : Int) : Sy.LoopC :=
  ⟨.loop bodyS1, 143, slS1 V6 a b 0, goodU a ∧ 0 ≤ b, ⟨[], [], 0⟩, [(⟨fun _ => True, fun _ => []⟩, .exit 4, fun _ => [(8, .int .u64 (shrV a b))])]⟩

theorem wrapU_mod (x : Int) : Ex.wrapQ .u64 x = x % 18446744073709551616 := by
  rw [Ex.wrapQ_eq]
  simp [IntKind.wrap, IntKind.signed, IntKind.bits]
theorem inc_u (k : Nat) (h : k < 1000) : Ex.wrapQ .u64 (Ex.addQ (k : Int) 1) = ((k + 1 : Nat) : Int) := by
  rw [wrapU_mod, Ex.addQ_eq]
  omega

def shlAt (a : Int) : Nat → Int
  | 0 => a
  | k + 1 => Ex.wrapQ .u64 (Ex.addQ (shlAt a k) (shlAt a k))
def shrAt (a : Int) : Nat → Int
  | 0 => a
  | k + 1 => Ex.wrapQ .u64 (Ex.quoQ (shrAt a k) (nat_lit 2))
theorem shlAt_eq {a : Int} (h : goodU a) : ∀ k, shlAt a k = a * 2 ^ k % 18446744073709551616
  | 0 => by unfold goodU at h; simp only [shlAt, Int.pow_zero, Int.mul_one]; omega
  | k + 1 => by
    simp only [shlAt]
    rw [shlAt_eq h k, wrapU_mod, Ex.addQ_eq, ← Int.add_emod]
    congr 1
    rw [Int.pow_succ, ← Int.mul_assoc]
    omega
theorem shrAt_eq {a : Int} (h : goodU a) : ∀ k, shrAt a k = a / 2 ^ k
  | 0 => by simp [shrAt]
  | k + 1 => by
    have hg := div_good h k
    unfold goodU at hg
    simp only [shrAt]
    rw [shrAt_eq h k, half hg.1, Int.pow_succ, ← Int.ediv_ediv_of_nonneg (Int.le_of_lt (by exact_mod_cast Nat.two_pow_pos k))]
    generalize a / 2 ^ k = b at *
    exact wrapU (by omega) (by omega)

theorem loopS0_met (V6 : Value) (a b : Int) : Sy.MeetsL Try.prog (loopS0 V6 a b) := by
  refine Sy.loop_of (n := 60) (fn := fAt) Sy.S0_holds mixed (body := bodyS0) rfl [6, 8, 9, 10] (fun k : Nat => slS0 V6 (shlAt a k) b k) (fun _ => [])
    (fun k => k ≤ (b % 64).toNat) (fun k => (b % 64).toNat - k)
    0 (fun h => Nat.zero_le _) (fun p hp => hp) [] List.nodup_nil rfl (o := fun _ => s0_o) (R := fun k rest => s0_R V6 (shlAt a k) b k rest) (fun k rest _ => s0_run V6 (shlAt a k) b k rest) ?_
  rintro ⟨ha, hb⟩ k rest hk ns
  have hb : 0 ≤ b := hb
  simp only [s0_R, Sy.Res.holds, Sy.b_and, Sy.b_or, Sy.b_not, Sy.b_f, Sy.b_and', Sy.b_or', Sy.q_lt, Sy.q_le, Sy.q_eq, Sy.b_tt, Sy.b_ft, not_true_eq_false, not_false_eq_true, rem64 hb]
  refine ⟨fun hlt => Sy.leafL_next (k + 1) rfl (show k + 1 ≤ (b % 64).toNat by omega) (by show (b % 64).toNat - (k + 1) < (b % 64).toNat - k; omega) (by rw [inc_u k (by omega)]; rfl) [] List.nodup_nil rfl, fun hge => ?_⟩
  have : k = (b % 64).toNat := by omega
  subst this
  exact Sy.leafL_end 0 rfl rfl (by simp) rfl [] rfl [1] (by rw [shlAt_eq ha, ← shlV_eq]; rfl) [] List.nodup_nil trivial trivial

theorem loopS1_met (V6 : Value) (a b : Int) : Sy.MeetsL Try.prog (loopS1 V6 a b) := by
  refine Sy.loop_of (n := 60) (fn := fAt) Sy.S0_holds mixed (body := bodyS1) rfl [6, 8, 9, 11] (fun k : Nat => slS1 V6 (shrAt a k) b k) (fun _ => [])
    (fun k => k ≤ (b % 64).toNat) (fun k => (b % 64).toNat - k)
    0 (fun h => Nat.zero_le _) (fun p hp => hp) [] List.nodup_nil rfl (o := fun _ => s1_o) (R := fun k rest => s1_R V6 (shrAt a k) b k rest) (fun k rest _ => s1_run V6 (shrAt a k) b k rest) ?_
  rintro ⟨ha, hb⟩ k rest hk ns
  have hb : 0 ≤ b := hb
  simp only [s1_R, Sy.Res.holds, Sy.b_and, Sy.b_or, Sy.b_not, Sy.b_f, Sy.b_and', Sy.b_or', Sy.q_lt, Sy.q_le, Sy.q_eq, Sy.b_tt, Sy.b_ft, not_true_eq_false, not_false_eq_true, rem64 hb]
  refine ⟨fun hlt => Sy.leafL_next (k + 1) rfl (show k + 1 ≤ (b % 64).toNat by omega) (by show (b % 64).toNat - (k + 1) < (b % 64).toNat - k; omega) (by rw [inc_u k (by omega)]; rfl) [] List.nodup_nil rfl, fun hge => ?_⟩
  have : k = (b % 64).toNat := by omega
  subst this
  exact Sy.leafL_end 0 rfl rfl (by simp) rfl [] rfl [1] (by rw [shrAt_eq ha, ← shrV_eq]; rfl) [] List.nodup_nil trivial trivial

end Go.Proofs.Ytgaejhhipnpopaa
