/-
  LowerValues: the plain law: what an expression is laid as, when run, leaves its value.
-/
import Derived.Test.YtgaejhhipnpopaaLwNum
import Derived.Test.YtgaejhhipnpopaaLwX
namespace Go.Proofs.Ytgaejhhipnpopaa
open Go Go.RowKit
set_option linter.unusedVariables false
set_option linter.unusedSimpArgs false

def unV (op a : Int) : Int := if op = 3 then Ex.wrapQ .u64 (Ex.subQ' 0 a) else if op = 4 then Ex.wrapQ .u64 (Ex.subQ' 18446744073709551615 a) else if a = 0 then 1 else 0
def binV (op a b : Int) : Int :=
  if op = 6 then Ex.wrapQ .u64 (Ex.mulQ a b) else if op = 7 then Ex.wrapQ .u64 (Ex.addQ a b) else if op = 8 then Ex.wrapQ .u64 (Ex.subQ' a b)
  else if op = 9 then a * 2 ^ (b % 64).toNat % 18446744073709551616 else if op = 10 then a / 2 ^ (b % 64).toNat else if op = 11 then Ex.andQ .u64 a b else if op = 12 then Ex.xorQ .u64 a b else if op = 13 then Ex.orQ .u64 a b
  else if op = 14 then (if a = b then 1 else 0) else if op = 15 then (if a = b then 0 else 1) else if op = 16 then (if a < b then 1 else 0) else if op = 17 then (if a ≤ b then 1 else 0) else if op = 18 then (if b < a then 1 else 0) else if b ≤ a then 1 else 0
/-- An expression's value over the locals. -/
def evalE (xs : List Int) : E → Int
  | .num v => v
  | .loc v => xs.getD v.toNat 0
  | .un op x => unV op (evalE xs x)
  | .bin op x y => binV op (evalE xs x) (evalE xs y)
/-- One that may be. -/
def fineE : E → Prop
  | .num v => goodU v
  | .loc v => 0 ≤ v ∧ v < 24
  | .un op x => (3 ≤ op ∧ op ≤ 5) ∧ fineE x
  | .bin op x y => (6 ≤ op ∧ op ≤ 19) ∧ fineE x ∧ fineE y
def goodLoc (xs : List Int) : Prop := ∀ j, j < 24 → goodU (xs.getD j 0)

theorem tr_fine {l : List Nd} (h : nodesOk 24 l) (hg : goodN l) : ∀ n i, i < n → i < l.length → fineE (tr l i)
  | 0, _, hi, _ => absurd hi (Nat.not_lt_zero _)
  | n + 1, i, hi, hl => by
    have ea : l[i]? = some l[i] := List.getElem?_eq_getElem hl
    have hx := h i _ ea
    have hv : goodU l[i].val := hg _ (List.getElem_mem hl)
    generalize l[i] = x at *
    rcases hx with ⟨h1, -, -⟩ | ⟨h1, -, -, h2⟩ | ⟨h1, h2, -, h3, h4, -⟩ | ⟨h1, h2, -, h3, h4, h5, h6⟩
    · rw [tr_num ea (by omega)]; exact hv
    · rw [tr_loc ea h1]; unfold goodU at hv; exact ⟨by omega, h2⟩
    · rw [tr_un ea h1 h2 (by omega)]; exact ⟨⟨h1, h2⟩, tr_fine h hg n _ (by omega) (by omega)⟩
    · rw [tr_bin ea h1 (by omega) (by omega)]; exact ⟨⟨h1, h2⟩, tr_fine h hg n _ (by omega) (by omega), tr_fine h hg n _ (by omega) (by omega)⟩

theorem evalE_congr {xs ys : List Int} (h : ∀ j, j < 24 → xs.getD j 0 = ys.getD j 0) : ∀ x, fineE x → evalE xs x = evalE ys x
  | .num _, _ => rfl
  | .loc v, hf => by
    have h1 : 0 ≤ v ∧ v < 24 := hf
    exact h _ (by omega)
  | .un op x, hf => by simp only [evalE]; rw [evalE_congr h x hf.2]
  | .bin op x y, hf => by simp only [evalE]; rw [evalE_congr h x hf.2.1, evalE_congr h y hf.2.2]

theorem wrap_good (x : Int) : goodU (Ex.wrapQ .u64 x) := by
  rw [Ex.wrapQ_eq]
  unfold goodU
  simp [IntKind.wrap, IntKind.signed, IntKind.bits]
  omega
theorem div_good {a : Int} (h : goodU a) (n : Nat) : goodU (a / 2 ^ n) := by
  unfold goodU at *
  have hp : (0 : Int) < 2 ^ n := by exact_mod_cast Nat.two_pow_pos n
  exact ⟨Int.ediv_nonneg h.1 (Int.le_of_lt hp), Int.lt_of_le_of_lt (Int.ediv_le_self _ h.1) h.2⟩
theorem bit_good (p : Prop) [Decidable p] : goodU (if p then 1 else 0) := by unfold goodU; split <;> omega
theorem bit_good' (p : Prop) [Decidable p] : goodU (if p then 0 else 1) := by unfold goodU; split <;> omega
theorem unV_good (op a : Int) : goodU (unV op a) := by
  unfold unV
  split
  · exact wrap_good _
  · split
    · exact wrap_good _
    · exact bit_good _
theorem binV_good (op a b : Int) (h : goodU a) : goodU (binV op a b) := by
  have hm : ∀ x : Int, goodU (x % 18446744073709551616) := fun x => by unfold goodU; omega
  have ha : goodU (Ex.andQ .u64 a b) := wrap_good _
  have hx : goodU (Ex.xorQ .u64 a b) := wrap_good _
  have ho : goodU (Ex.orQ .u64 a b) := wrap_good _
  have h0 : goodU 0 := by unfold goodU; omega
  have h1 : goodU 1 := by unfold goodU; omega
  have g : ∀ (p : Prop) [Decidable p] (x y : Int), goodU x → goodU y → goodU (if p then x else y) := fun p _ x y hx hy => by
    split
    · exact hx
    · exact hy
  unfold binV
  refine g _ _ _ (wrap_good _) (g _ _ _ (wrap_good _) (g _ _ _ (wrap_good _) (g _ _ _ (hm _) (g _ _ _ (div_good h _) (g _ _ _ ha (g _ _ _ hx (g _ _ _ ho ?_)))))))
  exact g _ _ _ (g _ _ _ h1 h0) (g _ _ _ (g _ _ _ h0 h1) (g _ _ _ (g _ _ _ h1 h0) (g _ _ _ (g _ _ _ h1 h0) (g _ _ _ (g _ _ _ h1 h0) (g _ _ _ h1 h0)))))
theorem evalE_good {xs : List Int} (h : goodLoc xs) : ∀ x, fineE x → goodU (evalE xs x)
  | .num _, hf => hf
  | .loc v, hf => by
    have h1 : 0 ≤ v ∧ v < 24 := hf
    exact h _ (by omega)
  | .un op x, hf => unV_good _ _
  | .bin op x y, hf => binV_good _ _ _ (evalE_good h x hf.2.1)

/-! Lists of registers. -/
theorem gd_eq {xs : List Int} {i : Nat} (h : i < xs.length) (v : Int) : (xs.set i v).getD i 0 = v := by simp [List.getD_eq_getElem?_getD, h]
theorem gd_ne {xs : List Int} {i j : Nat} (h : i ≠ j) (v : Int) : (xs.set i v).getD j 0 = xs.getD j 0 := by simp [List.getD_eq_getElem?_getD, List.getElem?_set_ne h]

/-- v stands in t; no other register below 31 is changed but those from t on, n of them. -/
def afterR (t : Int) (n : Nat) (xs zs : List Int) (v : Int) : Prop := zs.length = 34 ∧ zs.getD t.toNat 0 = v ∧ ∀ j : Nat, j < 31 → ((j : Int) < t ∨ t + n ≤ j) → zs.getD j 0 = xs.getD j 0

def putR (xs : List Int) (t v : Int) : List Int := (xs.set 31 0).set t.toNat v
theorem putR_after {xs zs : List Int} {t v w : Int} {n : Nat} (h : afterR t n xs zs w) (hn : 0 < n) (h0 : 0 ≤ t) (h1 : t ≤ 30) : afterR t n xs (putR zs t v) v := by
  refine ⟨by simp [putR, h.1], gd_eq (by simp [h.1]; omega) _, fun j hj hd => ?_⟩
  unfold putR
  rw [gd_ne (by omega), gd_ne (by omega)]
  exact h.2.2 j hj hd
theorem after_refl {xs : List Int} (t : Int) (n : Nat) (h : xs.length = 34) : afterR t n xs xs (xs.getD t.toNat 0) := ⟨h, rfl, fun _ _ _ => rfl⟩
theorem after_mono {xs zs : List Int} {t v : Int} {n m : Nat} (h : afterR t n xs zs v) (hn : n ≤ m) : afterR t m xs zs v := ⟨h.1, h.2.1, fun j hj hd => h.2.2 j hj (by omega)⟩

theorem runL_app {l m : List I} : ∀ {xs ys : List Int}, runL xs l = some ys → runL xs (l ++ m) = runL ys m := by
  induction l with
  | nil => intro xs ys h; cases h; rfl
  | cons i l ih =>
    intro xs ys h
    simp only [List.cons_append, runL] at h ⊢
    split at h
    · rename_i zs hz
      exact ih h
    · cases h

/-! One instruction each. -/
theorem movk_any {r : Int} (h0 : 0 ≤ r) (h1 : r ≤ 30) (xs ws : List Int) {c x i : Int} (s : Nat) (hi : shR i = s) (hs : s = 16 ∨ s = 32 ∨ s = 48) (hx : afterR r 1 ws xs c) (hc0 : 0 ≤ c) (hc1 : c < 2 ^ s) (x0 : 0 ≤ x) (x1 : x < 65536) (l : List I) :
    ∃ zs, afterR r 1 ws zs (c + x * 2 ^ s) ∧ runL xs (movk r x i ++ l) = runL zs l := by
  by_cases hz : x = 0
  · subst hz
    exact ⟨xs, by simpa using hx, by simp [movk]⟩
  · refine ⟨putR xs r (c + x * 2 ^ s), putR_after hx (by omega) h0 h1, ?_⟩
    have e := movk_val s hs hc0 hc1 x0 x1
    have g : (xs.set 31 0).getD r.toNat 0 = c := by
      rw [gd_ne (by omega)]; exact hx.2.1
    have a : ¬ r < 0 := by omega
    have b : ¬ 30 < r := by omega
    simp only [movk, if_neg hz, List.cons_append, List.nil_append, runL, stepR, a, b, if_false, hi, g, e]
    simp [putR]

theorem numL_any {r v : Int} (h0 : 0 ≤ r) (h1 : r ≤ 30) (hv : goodU v) (xs : List Int) (hl : xs.length = 34) : ∃ zs, afterR r 1 xs zs v ∧ runL xs (numL r v) = some zs := by
  unfold goodU at hv
  have e0 : ∀ l, runL xs (⟨1, r, 0, 0, v % 65536, 0⟩ :: l) = runL (putR xs r (v % 65536)) l := fun l => by
    have e : Ex.shlQ .u64 (Ex.wrapQ .u64 (v % 65536)) (shR 0) = v % 65536 := by
      have : shR 0 = 0 := by decide
      rw [this, shl16 (by omega) (by omega) 0 (by decide)]; simp
    have a : ¬ r < 0 := by omega
    have b : ¬ 30 < r := by omega
    simp [runL, stepR, a, b, e, putR]
  have g0 : afterR r 1 xs (putR xs r (v % 65536)) (v % 65536) := putR_after (after_refl r 1 hl) (by omega) h0 h1
  obtain ⟨z1, g1, e1⟩ := movk_any h0 h1 _ xs (x := v / 65536 % 65536) (i := 1) 16 (by decide) (.inl rfl) g0 (by omega) (by omega) (by omega) (by omega) (movk r (v / 4294967296 % 65536) 2 ++ movk r (v / 281474976710656 % 65536) 3)
  obtain ⟨z2, g2, e2⟩ := movk_any h0 h1 z1 xs (x := v / 4294967296 % 65536) (i := 2) 32 (by decide) (.inr (.inl rfl)) g1 (by omega) (by omega) (by omega) (by omega) (movk r (v / 281474976710656 % 65536) 3)
  obtain ⟨z3, g3, e3⟩ := movk_any h0 h1 z2 xs (x := v / 281474976710656 % 65536) (i := 3) 48 (by decide) (.inr (.inr rfl)) g2 (by omega) (by omega) (by omega) (by omega) []
  rw [List.append_nil] at e3
  refine ⟨z3, ?_, ?_⟩
  · have : v % 65536 + v / 65536 % 65536 * 2 ^ 16 + v / 4294967296 % 65536 * 2 ^ 32 + v / 281474976710656 % 65536 * 2 ^ 48 = v := by omega
    rw [this] at g3
    exact g3
  · unfold numL
    rw [e0, e1, e2, e3]; rfl

theorem or_zero {a : Int} (h : goodU a) : Ex.orQ .u64 0 a = a := by
  unfold goodU at h
  obtain ⟨n, rfl⟩ : ∃ n : Nat, a = n := ⟨a.toNat, by omega⟩
  unfold Ex.orQ
  have e0 : Ex.residQ (Ex.kMod .u64) (0 : Int) = 0 := by decide
  rw [resid_id (by omega), e0, Ex.wrapQ_eq]
  have : Nat.lor 0 n = n := Nat.zero_or n
  rw [this]
  exact wrap_id (Int.natCast_nonneg n) h.2
theorem xor_full (n : Nat) (h : n < 2 ^ 64) : Nat.xor (2 ^ 64 - 1) n = 2 ^ 64 - 1 - n := by
  have : 2 ^ 64 - 1 - n = 2 ^ 64 - (n + 1) := by omega
  rw [this]
  apply Nat.eq_of_testBit_eq
  intro i
  show ((2 ^ 64 - 1) ^^^ n).testBit i = _
  rw [Nat.testBit_xor, Nat.testBit_two_pow_sub_one, Nat.testBit_two_pow_sub_succ h]
  by_cases hi : i < 64
  · simp [hi]
  · have : n.testBit i = false := Nat.testBit_lt_two_pow (Nat.lt_of_lt_of_le h (Nat.pow_le_pow_right (by decide) (by omega)))
    simp [hi, this]
theorem orn_law {a : Int} (h : goodU a) : Ex.orQ .u64 0 (Ex.xorQ .u64 18446744073709551615 a) = Ex.wrapQ .u64 (Ex.subQ' 18446744073709551615 a) := by
  rw [or_zero (a := Ex.xorQ .u64 18446744073709551615 a) (wrap_good (Int.ofNat _))]
  unfold goodU at h
  obtain ⟨n, rfl⟩ : ∃ n : Nat, a = n := ⟨a.toNat, by omega⟩
  unfold Ex.xorQ
  have e0 : Ex.residQ (Ex.kMod .u64) (18446744073709551615 : Int) = 2 ^ 64 - 1 := by decide
  rw [resid_id (by omega), e0, xor_full n (by omega), Ex.subQ_eq]
  congr 1
  show ((2 ^ 64 - 1 - n : Nat) : Int) = _
  omega
theorem and63 {b : Int} (h : goodU b) : Int.toNat (Ex.andQ .u64 b 63) = (b % 64).toNat := by
  unfold goodU at h
  obtain ⟨n, rfl⟩ : ∃ n : Nat, b = n := ⟨b.toNat, by omega⟩
  unfold Ex.andQ
  have e0 : Ex.residQ (Ex.kMod .u64) (63 : Int) = 2 ^ 6 - 1 := by decide
  rw [resid_id (by omega), e0, Ex.wrapQ_eq]
  have : Nat.land n (2 ^ 6 - 1) = n % 2 ^ 6 := Nat.and_two_pow_sub_one_eq_mod n 6
  rw [this]
  have e1 : IntKind.u64.wrap (Int.ofNat (n % 2 ^ 6)) = ((n % 64 : Nat) : Int) := wrap_id (x := ((n % 64 : Nat) : Int)) (by omega) (by omega)
  rw [e1]
  omega
theorem shl_law {a : Int} (h : goodU a) {n : Nat} (hn : n < 64) : Ex.shlQ .u64 a n = a * 2 ^ n % 18446744073709551616 := by
  rw [Ex.shlQ_eq, Nat.min_eq_left (by show n ≤ 64; omega)]
  simp [IntKind.wrap, IntKind.signed, IntKind.bits]
theorem shr_law {a : Int} (h : goodU a) {n : Nat} (hn : n < 64) : Ex.shrQ .u64 a n = a / 2 ^ n := by
  rw [Ex.shrQ_eq, Nat.min_eq_left (by show n ≤ 64; omega)]
  have hp : (0 : Int) < 2 ^ n := by exact_mod_cast Nat.two_pow_pos n
  exact Int.fdiv_eq_ediv_of_nonneg _ (Int.le_of_lt hp)

/-! What an expression is laid as. -/
theorem step_loc {t v : Int} {xs : List Int} (hl : xs.length = 34) (h0 : 24 ≤ t) (h1 : t ≤ 28) (hv : 0 ≤ v ∧ v < 24) (hg : goodLoc xs) : stepR xs ⟨6, t, 31, v, 0, 0⟩ = some (putR xs t (xs.getD v.toNat 0)) := by
  have a : ¬ t < 0 := by omega
  have b : ¬ 30 < t := by omega
  have c : ¬ v < 0 := by omega
  have d : ¬ 31 < v := by omega
  have e : (xs.set 31 0).getD v.toNat 0 = xs.getD v.toNat 0 := gd_ne (by omega) _
  have f : (xs.set 31 0).getD 31 0 = 0 := gd_eq (by omega) _
  have g := or_zero (hg v.toNat (by omega))
  simp [-List.getD_eq_getElem?_getD, stepR, a, b, c, d, e, f, g, putR]

theorem step_un {op t : Int} {xs : List Int} (hl : xs.length = 34) (h0 : 24 ≤ t) (h1 : t ≤ 28) (ho : 3 ≤ op ∧ op ≤ 5) (hg : goodU (xs.getD t.toNat 0)) {ws : List Int} {n : Nat} {w : Int} (hn : 0 < n) (ha : afterR t n ws xs w) : ∃ zs, runL xs (unL op t) = some zs ∧ afterR t n ws zs (unV op (xs.getD t.toNat 0)) := by
  have a : ¬ t < 0 := by omega
  have b : ¬ 30 < t := by omega
  have d : ¬ 31 < t := by omega
  have e : (xs.set 31 0).getD t.toNat 0 = xs.getD t.toNat 0 := gd_ne (by omega) _
  have f : (xs.set 31 0).getD 31 0 = 0 := gd_eq (by omega) _
  obtain rfl | rfl | rfl : op = 3 ∨ op = 4 ∨ op = 5 := by omega
  · exact ⟨putR xs t (unV 3 (xs.getD t.toNat 0)), by simp [-List.getD_eq_getElem?_getD, unL, runL, stepR, a, b, d, e, f, putR, unV], putR_after ha hn (by omega) (by omega)⟩
  · have g := orn_law hg
    exact ⟨putR xs t (unV 4 (xs.getD t.toNat 0)), by simp [-List.getD_eq_getElem?_getD, unL, runL, stepR, a, b, d, e, f, putR, unV, g], putR_after ha hn (by omega) (by omega)⟩
  · have hcmp : afterR t n ws (((xs.set 31 0).set 32 (xs.getD t.toNat 0)).set 33 0) w := by
      refine ⟨by simp [hl], ?_, fun j hj hd => ?_⟩
      · rw [gd_ne (by omega), gd_ne (by omega), gd_ne (by omega)]; exact ha.2.1
      · rw [gd_ne (by omega), gd_ne (by omega), gd_ne (by omega)]; exact ha.2.2 j hj hd
    refine ⟨putR (((xs.set 31 0).set 32 (xs.getD t.toNat 0)).set 33 0) t (unV 5 (xs.getD t.toNat 0)), ?_, putR_after hcmp hn (by omega) (by omega)⟩
    have g32 : (((xs.set 31 0).set 32 (xs.getD t.toNat 0)).set 33 0).getD 32 0 = xs.getD t.toNat 0 := by rw [gd_ne (by omega), gd_eq (by simp [hl])]
    have g33 : (((xs.set 31 0).set 32 (xs.getD t.toNat 0)).set 33 0).getD 33 0 = 0 := gd_eq (by simp [hl]) _
    have u : unL 5 t = [⟨16, 0, t, 31, 0, 0⟩, ⟨17, t, 0, 0, 0, 0⟩] := rfl
    have s1 : stepR xs ⟨16, 0, t, 31, 0, 0⟩ = some (((xs.set 31 0).set 32 (xs.getD t.toNat 0)).set 33 0) := by simp [-List.getD_eq_getElem?_getD, stepR, a, d, e, f]
    generalize ((xs.set 31 0).set 32 (xs.getD t.toNat 0)).set 33 0 = ys at *
    have s2 : stepR ys ⟨17, t, 0, 0, 0, 0⟩ = some (putR ys t (unV 5 (xs.getD t.toNat 0))) := by
      simp [-List.getD_eq_getElem?_getD, stepR, a, b, g32, g33, condB, Sy.q_eq, putR, unV]
    rw [u]
    simp only [runL, s1, s2]

theorem step_bin {op t : Int} {xs : List Int} (hl : xs.length = 34) (h0 : 24 ≤ t) (h1 : t ≤ 27) (ho : 6 ≤ op ∧ op ≤ 19) {va vb : Int} (hva : xs.getD t.toNat 0 = va) (hvb : xs.getD (t + 1).toNat 0 = vb) (hg : goodU va) (hg' : goodU vb) {ws : List Int} {n : Nat} {w : Int} (hn : 0 < n) (ha : afterR t n ws xs w) : ∃ zs, runL xs (binL op t) = some zs ∧ afterR t n ws zs (binV op va vb) := by
  have a : ¬ t < 0 := by omega
  have b : ¬ 30 < t := by omega
  have d : ¬ 31 < t := by omega
  have a' : ¬ t + 1 < 0 := by omega
  have d' : ¬ 31 < t + 1 := by omega
  have e : (xs.set 31 0).getD t.toNat 0 = va := by rw [gd_ne (by omega)]; exact hva
  have e' : (xs.set 31 0).getD (t + 1).toNat 0 = vb := by rw [gd_ne (by omega)]; exact hvb
  by_cases h13 : op ≤ 13
  · refine ⟨putR xs t (binV op va vb), ?_, putR_after ha hn (by omega) (by omega)⟩
    have sl := shl_law hg (n := (vb % 64).toNat) (by omega)
    have sr := shr_law hg (n := (vb % 64).toNat) (by omega)
    have an := and63 hg'
    obtain rfl | rfl | rfl | rfl | rfl | rfl | rfl | rfl : op = 6 ∨ op = 7 ∨ op = 8 ∨ op = 9 ∨ op = 10 ∨ op = 11 ∨ op = 12 ∨ op = 13 := by omega
    all_goals simp [-List.getD_eq_getElem?_getD, binL, binOp, runL, stepR, a, b, d, a', d', e, e', putR, binV, an, sl, sr]
  · have hb : binOp op = 0 := by
      unfold binOp
      repeat rw [if_neg (by omega)]
    have hcmp : afterR t n ws (((xs.set 31 0).set 32 va).set 33 vb) w := by
      refine ⟨by simp [hl], ?_, fun j hj hd => ?_⟩
      · rw [gd_ne (by omega), gd_ne (by omega), gd_ne (by omega)]; exact ha.2.1
      · rw [gd_ne (by omega), gd_ne (by omega), gd_ne (by omega)]; exact ha.2.2 j hj hd
    refine ⟨putR (((xs.set 31 0).set 32 va).set 33 vb) t (binV op va vb), ?_, putR_after hcmp hn (by omega) (by omega)⟩
    have g32 : (((xs.set 31 0).set 32 va).set 33 vb).getD 32 0 = va := by rw [gd_ne (by omega), gd_eq (by simp [hl])]
    have g33 : (((xs.set 31 0).set 32 va).set 33 vb).getD 33 0 = vb := gd_eq (by simp [hl]) _
    have u : binL op t = [⟨16, 0, t, t + 1, 0, 0⟩, ⟨17, t, 0, 0, 0, binCond op⟩] := by unfold binL; rw [if_pos hb]
    have s1 : stepR xs ⟨16, 0, t, t + 1, 0, 0⟩ = some (((xs.set 31 0).set 32 va).set 33 vb) := by simp [-List.getD_eq_getElem?_getD, stepR, a, d, a', d', e, e']
    generalize ((xs.set 31 0).set 32 va).set 33 vb = ys at *
    have s2 : stepR ys ⟨17, t, 0, 0, 0, binCond op⟩ = some (putR ys t (binV op va vb)) := by
      obtain rfl | rfl | rfl | rfl | rfl | rfl : op = 14 ∨ op = 15 ∨ op = 16 ∨ op = 17 ∨ op = 18 ∨ op = 19 := by omega
      all_goals simp [-List.getD_eq_getElem?_getD, stepR, a, b, g32, g33, condB, binCond, Sy.q_eq, Sy.q_lt, Sy.q_le, Ex.eqQ_eq, Ex.ltQ_eq, Ex.leQ_eq, putR, binV]
      all_goals (try split <;> rfl)
    rw [u]
    simp only [runL, s1, s2]

theorem loc_after {t : Int} {n : Nat} {xs zs : List Int} {v : Int} (h : afterR t n xs zs v) (h0 : 24 ≤ t) : ∀ j, j < 24 → zs.getD j 0 = xs.getD j 0 := fun j hj => h.2.2 j (by omega) (by omega)

/-- The law: what it is laid as, when run, leaves its value in t. -/
theorem lay_runs : ∀ (x : E) (t : Int) (xs : List Int), xs.length = 34 → 24 ≤ t → t + x.needs ≤ 29 → goodLoc xs → fineE x → ∃ zs, runL xs (lay x t) = some zs ∧ afterR t x.needs xs zs (evalE xs x)
  | .num v, t, xs, hl, h0, h1, hg, hf => by
    simp only [E.needs] at h1
    obtain ⟨zs, h, e⟩ := numL_any (r := t) (by omega) (by omega) hf xs hl
    exact ⟨zs, e, h⟩
  | .loc v, t, xs, hl, h0, h1, hg, hf => by
    simp only [E.needs] at h1
    have hv : 0 ≤ v ∧ v < 24 := hf
    have h28 : t ≤ 28 := by omega
    refine ⟨putR xs t (xs.getD v.toNat 0), ?_, putR_after (after_refl t 1 hl) Nat.one_pos (Int.le_trans (by decide) h0) (Int.le_trans h28 (by decide))⟩
    simp only [lay, runL]; rw [step_loc hl h0 h28 hv hg]
  | .un op x, t, xs, hl, h0, h1, hg, hf => by
    have hp := x.needs_pos
    simp only [E.needs] at h1 ⊢
    obtain ⟨ys, e1, ha⟩ := lay_runs x t xs hl h0 h1 hg hf.2
    have hev := evalE_good hg x hf.2
    obtain ⟨zs, e2, hz⟩ := step_un (op := op) (xs := ys) ha.1 h0 (by omega) hf.1 (by rw [ha.2.1]; exact hev) hp ha
    refine ⟨zs, ?_, ?_⟩
    · simp only [lay]; rw [runL_app e1]; exact e2
    · rw [ha.2.1] at hz; exact hz
  | .bin op x y, t, xs, hl, h0, h1, hg, hf => by
    have hp := x.needs_pos
    have hq := y.needs_pos
    simp only [E.needs] at h1 ⊢
    obtain ⟨ys, e1, ha⟩ := lay_runs x t xs hl h0 (by omega) hg hf.2.1
    have hloc := loc_after ha h0
    have hgy : goodLoc ys := fun j hj => by rw [hloc j hj]; exact hg j hj
    obtain ⟨ws, e2, hb⟩ := lay_runs y (t + 1) ys ha.1 (by omega) (by omega) hgy hf.2.2
    have hev := evalE_good hg x hf.2.1
    have hev' := evalE_good hg y hf.2.2
    have hy : evalE ys y = evalE xs y := evalE_congr hloc y hf.2.2
    have h1' : ws.getD t.toNat 0 = evalE xs x := by
      rw [hb.2.2 t.toNat (by omega) (by omega)]; exact ha.2.1
    have h2' : ws.getD (t + 1).toNat 0 = evalE xs y := by rw [hb.2.1]; exact hy
    have hws : afterR t (max x.needs (y.needs + 1)) xs ws (evalE xs x) := by
      refine ⟨hb.1, h1', fun j hj hd => ?_⟩
      rw [hb.2.2 j hj (by omega)]
      exact ha.2.2 j hj (by omega)
    obtain ⟨zs, e3, hz⟩ := step_bin (op := op) (xs := ws) hb.1 h0 (by omega) hf.1 h1' h2' hev hev' (by omega) hws
    refine ⟨zs, ?_, hz⟩
    simp only [lay]
    rw [runL_app e1, runL_app e2]; exact e3

end Go.Proofs.Ytgaejhhipnpopaa
