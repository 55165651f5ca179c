/-
  The reference's Word.
-/
import Derived.Test.YtjcebkkmpgafkaaRefC
import Derived.Deep.RegionWith
import Derived.Deep.QuietTactic
import Derived.BigQuiet
namespace Go.Proofs.Ytjcebkkmpgafkaa
open Go Go.RowKit Ev

/-- How many of the d signs behind the place k are c. -/
def bh (l : List Nat) (c k : Nat) : Nat → Nat
  | 0 => 0
  | d + 1 => bh l c k d + if l.getD (k + 1 + d) 0 = c then 1 else 0

theorem bh_le (l : List Nat) (c k : Nat) : ∀ d, bh l c k d ≤ d
  | 0 => Nat.le_refl _
  | d + 1 => by have := bh_le l c k d; simp only [bh]; split <;> omega

/-- The bit of the place k. -/
def bitV (i : I) (l : List Nat) (k : Nat) : Nat :=
  if l.getD k 0 = 49 then 1 else if 57 < l.getD k 0 then ((valV i (l.getD k 0)) % 18446744073709551616).toNat / 2 ^ bh l (l.getD k 0) k (31 - k) % 2 else 0

theorem bitV_lt (i : I) (l : List Nat) (k : Nat) : bitV i l k < 2 := by
  unfold bitV; split
  · decide
  · split
    · exact Nat.mod_lt _ (by decide)
    · decide

/-- The lowest m bits of the word. -/
def wdT (i : I) (l : List Nat) : Nat → Nat
  | 0 => 0
  | m + 1 => wdT i l m ||| bitV i l (31 - m) * 2 ^ m

theorem wdT_lt (i : I) (l : List Nat) : ∀ m, wdT i l m < 2 ^ m
  | 0 => by simp [wdT]
  | m + 1 => by
    have h1 := wdT_lt i l m
    have h2 := bitV_lt i l (31 - m)
    simp only [wdT]
    refine Nat.or_lt_two_pow (Nat.lt_trans h1 (Nat.pow_lt_pow_right (by decide) (by omega))) ?_
    rw [Nat.pow_succ]
    have : bitV i l (31 - m) ≤ 1 := by omega
    calc bitV i l (31 - m) * 2 ^ m ≤ 1 * 2 ^ m := Nat.mul_le_mul_right _ this
      _ < 2 ^ m * 2 := by have := Nat.two_pow_pos m; omega

theorem or_one (wm m : Nat) (hw : wm < 4294967296) (hm : m ≤ 31) : Value.int .u32 (bits .or .u32 (wm : Int) ((2 : Int) ^ m % 4294967296)) = .int .u32 ((wm ||| 1 * 2 ^ m : Nat) : Int) := by
  have h1 : 2 ^ m < 4294967296 := pow_lt32 m (by omega)
  have h2 : ((2 : Int) ^ m % 4294967296) = ((2 ^ m : Nat) : Int) := by
    have h3 : ((2 : Int) ^ m) = ((2 ^ m : Nat) : Int) := by simp
    rw [h3]; exact Int.emod_eq_of_lt (Int.natCast_nonneg _) (by omega)
  rw [h2, or32 wm _ hw h1, Nat.one_mul]
theorem or_zero (wm m : Nat) (hw : wm < 4294967296) : Value.int .u32 (bits .or .u32 (wm : Int) 0) = .int .u32 ((wm ||| 0 * 2 ^ m : Nat) : Int) := by
  have := or32 wm 0 hw (by decide)
  simp only [Int.natCast_zero] at this
  rw [this, Nat.zero_mul]
theorem or_bit (wm y m : Nat) (hw : wm < 4294967296) (hm : m ≤ 31) (hy : y < 2) : Value.int .u32 (bits .or .u32 (wm : Int) ((y : Int) * 2 ^ m % 4294967296)) = .int .u32 ((wm ||| y * 2 ^ m : Nat) : Int) := by
  rcases (show y = 0 ∨ y = 1 by omega) with rfl | rfl
  · simpa using or_zero wm m hw
  · simpa using or_one wm m hw hm

theorem or_shr (wm : Nat) (vv : Int) (b m : Nat) (hw : wm < 4294967296) (hm : m ≤ 31) :
    Value.int .u32 (bits .or .u32 (wm : Int) (bits .and .u64 (IntKind.u64.wrap vv / 2 ^ b) 1 % 4294967296 * 2 ^ m % 4294967296)) = .int .u32 ((wm ||| (vv % 18446744073709551616).toNat / 2 ^ b % 2 * 2 ^ m : Nat) : Int) := by
  have hx : IntKind.u64.wrap vv = ((vv % 18446744073709551616).toNat : Int) := by
    simp only [IntKind.wrap, IntKind.bits, IntKind.signed]
    simp
    omega
  have hlt : (vv % 18446744073709551616).toNat < 18446744073709551616 := by omega
  rw [hx]
  generalize (vv % 18446744073709551616).toNat = x at *
  have h1 : ((x : Int) / 2 ^ b) = ((x / 2 ^ b : Nat) : Int) := by simp
  have h2 := (bits_and_u64_nat (x / 2 ^ b) 1 (Nat.lt_of_le_of_lt (Nat.div_le_self _ _) hlt) (by decide))
  simp only [Int.natCast_one] at h2
  rw [h1, h2, Nat.and_one_is_mod]
  have h3 : x / 2 ^ b % 2 < 2 := Nat.mod_lt _ (by decide)
  generalize x / 2 ^ b % 2 = y at *
  have h4 : ((y : Int) % 4294967296) = y := by omega
  rw [h4]
  exact or_bit wm y m hw hm h3

theorem bcell {W w1 : World} {B : Nat} (hb : Below B W w1) : (∀ b o, b < B → w1.cell? ⟨b, o, none⟩ = W.cell? ⟨b, o, none⟩) ∧ (∀ b o, b < B → w1.frozen? ⟨b, o, none⟩ = W.frozen? ⟨b, o, none⟩) :=
  ⟨fun b o h => hb.cell (p := ⟨b, o, none⟩) h, fun b o h => hb.frozen (p := ⟨b, o, none⟩) h⟩

theorem val_call (i : I) (letter : Nat) (hl : isLetter letter = true) (w : World) : Calls Try.prog 38 #[.agg #[.int .i64 i.op, .int .i64 i.rd, .int .i64 i.rn, .int .i64 i.rm, .int .i64 i.imm, .int .i64 i.cond], .int .u8 letter] w fun e w' => e = .returned (.int .i64 (valV i letter)) ∧ Below w.heap.size w w' :=
  (val_gives i letter hl w).mono fun _ _ h => ⟨h.1, h.2.1⟩

set_option maxHeartbeats 2000000 in
theorem word_any (i : I) (k0 : Nat) (hop : i.op = (k0 : Nat)) (hk1 : 1 ≤ k0) (hk : k0 < 48) (w : World) :
    Calls Try.prog 24 #[.agg i.cells] w fun e w' => e = .returned (.int .u32 (wdT i (patL k0) 32)) ∧ Below w.heap.size w w' := by
  have hpat := pat_in k0 hk1 hk
  have hsz := patS_size k0
  have hat := fun j => patS_at k0 j hk
  have hlen : (patL k0).length = 32 := (by decide +kernel : ∀ k, k < 48 → 1 ≤ k → (patL k).length = 32) k0 hk hk1
  have hlet : ∀ j, j < 32 → 57 < (patL k0).getD j 0 → isLetter ((patL k0).getD j 0) = true := (by decide +kernel : ∀ k, k < 48 → ∀ j, j < 32 → 57 < (patL k).getD j 0 → isLetter ((patL k).getD j 0) = true) k0 hk
  have hsm : ∀ j, j < 32 → (patL k0).getD j 0 < 256 := (by decide +kernel : ∀ k, k < 48 → ∀ j, j < 32 → (patL k).getD j 0 < 256) k0 hk
  have hval := fun letter hl w => val_call i letter hl w
  have hwt := fun m => (wdT_lt i (patL k0) m)
  have hbt := fun k => (bitV_lt i (patL k0) k)
  have hws : ∀ m, wdT i (patL k0) (m + 1) = (wdT i (patL k0) m ||| bitV i (patL k0) (31 - m) * 2 ^ m) := fun _ => rfl
  have hbd : ∀ k, bitV i (patL k0) k = if (patL k0).getD k 0 = 49 then 1 else if 57 < (patL k0).getD k 0 then ((valV i ((patL k0).getD k 0)) % 18446744073709551616).toNat / 2 ^ bh (patL k0) ((patL k0).getD k 0) k (31 - k) % 2 else 0 := fun _ => rfl
  have hw0 : wdT i (patL k0) 0 = 0 := rfl
  rw [← hop] at hpat
  generalize wdT i (patL k0) = W at *
  generalize bitV i (patL k0) = bit at *
  generalize patS k0 = s at *
  generalize patL k0 = l at *
  rw [hlen] at hsz
  generalize valV i = V at *
  obtain ⟨op, rd, rn, rm, imm, cond⟩ := i
  simp only [I.cells] at *
  have hs1 : s.size ≤ 32 := by omega
  have hs2 : 32 ≤ s.size := by omega
  have HP := Lib.hid hpat
  have HA := Lib.hid hat
  have HL := Lib.hid hlen
  have HT := Lib.hid hlet
  have HSM := Lib.hid hsm
  have HV := Lib.hid hval
  have HWT := Lib.hid hwt
  have HBT := Lib.hid hbt
  have HWS := Lib.hid hws
  have HBD := Lib.hid hbd
  have HW0 := Lib.hid hw0
  clear hpat hat hsz hlen hlet hsm hval hwt hbt hws hbd hw0 hop hk hk1
  go_enter Try.func24, Try.ntmps24
  go_wp2_with fail
  refine (HP.out _).mono ?_
  rintro e w1 ⟨rfl, hb, _⟩
  have hB : Below (w.heap.size + 1) (w.alloc (.cells #[.int .i64 op, .int .i64 rd, .int .i64 rn, .int .i64 rm, .int .i64 imm, .int .i64 cond] 34)) w1 := by
    have := hb; simpa using this
  have HB := Lib.hid hB
  clear hb hB
  go_wp2_with fail
  go_loopw [4, 5] (fun v i wr => ∃ j : Nat, j ≤ 32 ∧ i = .int .i64 ((j : Int) - 1) ∧ v = .int .u32 (W (32 - j)) ∧ Hid (Below (w.heap.size + 1) (w.alloc (.cells #[.int .i64 op, .int .i64 rd, .int .i64 rn, .int .i64 rm, .int .i64 imm, .int .i64 cond] 34)) wr)) (fun _ i _ => (intOf i + 1).toNat)
  case atStart => exact ⟨32, by omega, by go_num, by rw [show 32 - 32 = 0 from rfl, HW0.out]; rfl, HB⟩
  case round =>
    obtain ⟨j, hj, rfl, rfl, hB⟩ := hrel
    cases j with
    | zero =>
      go_wp2_with fail
      go_returns
      refine ⟨rfl, ?_⟩
      exact ((Below.refl _ _).alloc (Nat.le_refl _) _).trans (Below.mono hB (by omega))
    | succ k =>
      have e : ((k + 1 : Nat) : Int) - 1 = k := by omega
      rw [e]
      clear e
      have hB' := hB.out
      obtain ⟨hc, hf⟩ := bcell hB'
      have hsize : w.heap.size + 1 ≤ wr.heap.size := by have := hB'.size; simpa using this
      clear hB'
      have hks : k < s.size := by omega
      have hkl : k < l.length := by rw [HL.out]; omega
      have hv := HA.out k hks hkl
      have hlj : l.getD k 0 = l[k] := by simp [List.getD_eq_getElem?_getD, hkl]
      rw [← hlj] at hv
      have hsm := HSM.out k (by omega)
      have hWl := HWT.out (32 - (k + 1))
      have hWs := HWS.out (32 - (k + 1))
      have hbd := HBD.out (31 - (32 - (k + 1)))
      have ek : 31 - (32 - (k + 1)) = k := by omega
      rw [ek] at hWs hbd
      have em : 32 - (k + 1) = 31 - k := by omega
      have em2 : 31 - k + 1 = 32 - k := by omega
      rw [em] at hWl hWs
      rw [em2] at hWs
      rw [em]
      have hpl : 2 ^ (31 - k) ≤ 2147483648 := Nat.le_trans (Nat.pow_le_pow_right (by decide) (show 31 - k ≤ 31 by omega)) (by decide)
      generalize hWm : W (31 - k) = wm at *
      have hwm : wm < 4294967296 := by omega
      have HWm := Lib.hid hWm
      have HWs := Lib.hid hWs
      have HBd := Lib.hid hbd
      have HVv : Hid ((s[k]'hks).toNat = l.getD k 0) := hv
      clear hWm hWs hbd hv hlj ek em em2 hkl
      by_cases h49 : l.getD k 0 = 49
      · have t1 : (((s[k]).toNat : Int) == 49) = true := by rw [HVv.out, h49]; rfl
        have t2 : ¬ (57 : Int) < ((s[k]).toNat : Int) := by rw [HVv.out, h49]; decide
        have H49 := Lib.hid h49
        clear h49
        go_wp2_with fail
        go_round
        case rel => exact ⟨k, by omega, rfl, by rw [HWs.out, HBd.out, if_pos H49.out, or_one wm (31 - k) hwm (by omega)], hB⟩
        case measure => simp [intOf]
      · have t1 : (((s[k]).toNat : Int) == 49) = false := by rw [HVv.out]; exact beq_eq_false_iff_ne.2 (by omega)
        by_cases h57 : 57 < l.getD k 0
        · have t2 : (57 : Int) < ((s[k]).toNat : Int) := by rw [HVv.out]; omega
          have hcv : ((s[k]).toNat : Int) = (l.getD k 0 : Int) := by rw [HVv.out]
          have HCV := Lib.hid hcv
          have HL1 := Lib.hid (HT.out k (by omega) h57)
          rw [if_neg h49, if_pos h57] at HBd
          clear h49 h57 hcv
          obtain ⟨wo, rfl⟩ : ∃ wo : World, wo = wr := ⟨_, rfl⟩
          go_wp2_with fail
          go_loopw [7, 8] (fun b j wr => ∃ q : Nat, k + 1 ≤ q ∧ q ≤ 32 ∧ j = .int .i64 (q : Int) ∧ b = .int .i64 (bh l (l.getD k 0) k (q - (k + 1))) ∧ ∃ n, wr = wo.drewN n) (fun _ j _ => 32 - (intOf j).toNat)
          case atStart => exact ⟨k + 1, Nat.le_refl _, by omega, by go_num, by rw [Nat.sub_self]; rfl, 0, rfl⟩
          case round =>
            obtain ⟨q, hq1, hq2, rfl, rfl, n, rfl⟩ := hrel
            have hbl := bh_le l (l.getD k 0) k (q - (k + 1))
            by_cases hd2 : q < 32
            · have hks2 : q < s.size := by omega
              have hkl2 : q < l.length := by rw [HL.out]; omega
              have hv2 := HA.out q hks2 hkl2
              have hlj2 : l.getD q 0 = l[q] := by simp [List.getD_eq_getElem?_getD, hkl2]
              rw [← hlj2] at hv2
              have hstep : bh l (l.getD k 0) k (q - (k + 1) + 1) = bh l (l.getD k 0) k (q - (k + 1)) + if l.getD (k + 1 + (q - (k + 1))) 0 = l.getD k 0 then 1 else 0 := rfl
              rw [show k + 1 + (q - (k + 1)) = q by omega, show q - (k + 1) + 1 = q + 1 - (k + 1) by omega] at hstep
              have HST := Lib.hid hstep
              have HV2 := Lib.hid hv2
              clear hstep hv2 hlj2 hkl2
              have hi1 : (q : Int) < (s.size : Int) := by omega
              have hi2 : (k : Int) < (s.size : Int) := by omega
              by_cases hcc : l.getD q 0 = l.getD k 0
              · have t3 : (((s[q]).toNat : Int) == ((s[k]).toNat : Int)) = true := by rw [HV2.out, HVv.out, hcc]; simp
                rw [if_pos hcc] at HST
                clear hcc
                generalize bh l (l.getD k 0) k (q - (k + 1)) = bq at *
                go_wp2_with fail
                go_quiet (fail)
                go_wp2_with fail
                go_roundw
                case rel => exact ⟨q + 1, by omega, by omega, by go_num, by rw [HST.out]; go_num, _, rfl⟩
                case measure => simp [intOf]; omega
              · have t3 : (((s[q]).toNat : Int) == ((s[k]).toNat : Int)) = false := by rw [HV2.out, HVv.out]; exact beq_eq_false_iff_ne.2 (by omega)
                rw [if_neg hcc] at HST
                clear hcc
                generalize bh l (l.getD k 0) k (q - (k + 1)) = bq at *
                go_wp2_with fail
                go_quiet (fail)
                go_wp2_with fail
                go_roundw
                case rel => exact ⟨q + 1, by omega, by omega, by go_num, by rw [HST.out]; rfl, _, rfl⟩
                case measure => simp [intOf]; omega
            · have hde : q = 32 := by omega
              subst hde
              rw [show 32 - (k + 1) = 31 - k by omega] at *
              generalize bh l (l.getD k 0) k (31 - k) = bq at *
              have hi2 : (k : Int) < (s.size : Int) := by omega
              have HL2 : Hid (isLetter (s[k]).toNat = true) := by show _ = _; rw [HVv.out]; exact HL1.out
              have HCALL : Hid (∀ w : World, Calls Try.prog 38 #[.agg #[.int .i64 op, .int .i64 rd, .int .i64 rn, .int .i64 rm, .int .i64 imm, .int .i64 cond], .int .u8 (s[k]).toNat] w fun e w' => e = .returned (.int .i64 (V (s[k]).toNat)) ∧ Below w.heap.size w w') := HV.out (s[k]).toNat HL2.out
              go_wp2_with fail
              go_region_with (go_at_call 38; go_call (HCALL.out _) as e w2 ⟨rfl, hb2⟩)
              all_goals
                go_wp2_with fail
                go_roundw
                case rel =>
                  refine ⟨k, by omega, rfl, ?_, ?_⟩
                  · rw [HWs.out, HBd.out, or_shr wm _ bq (31 - k) hwm (by omega), HVv.out]
                  · show Below _ _ _
                    exact Below.trans (below_drewN hB.out _) (Below.mono hb2 (by simpa using hsize))
                case measure => simp [intOf]
        · have t2 : ¬ (57 : Int) < ((s[k]).toNat : Int) := by rw [HVv.out]; omega
          rw [if_neg h49, if_neg h57] at HBd
          clear h49 h57
          go_wp2_with fail
          go_round
          case rel => exact ⟨k, by omega, rfl, by rw [HWs.out, HBd.out, or_zero wm (31 - k) hwm], hB⟩
          case measure => simp [intOf]

end Go.Proofs.Ytjcebkkmpgafkaa
