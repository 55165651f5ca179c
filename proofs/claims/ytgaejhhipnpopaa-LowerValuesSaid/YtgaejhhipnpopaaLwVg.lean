/-
  LowerValues: the call, of any arguments.
-/
import Derived.Test.YtgaejhhipnpopaaLwVf
import Derived.Test.YtgaejhhipnpopaaLwAs
namespace Go.Proofs.Ytgaejhhipnpopaa
set_option linter.unusedVariables false
set_option linter.unusedSimpArgs false
open Go Go.RowKit
open Sy (Let Blk)
set_option linter.unusedVariables false
set_option linter.unusedSimpArgs false

theorem ctxV_holds (w w' : Bool) (r : Sy.CallC) (hr : Sy.Meets Try.prog r) (g o c : Nat) (l : List Nd) (k b s : Int) (q q' : Nat) (xs ys zs : List Int) : (ctxV w w' r g o c l k b s q q' xs ys zs).holds Try.prog := Sy.mkS_holds (fun p hp a L => by
  rcases List.mem_cons.1 hp with rfl | hp
  · exact awC_met
  rcases List.mem_cons.1 hp with rfl | hp
  · exact hr
  rcases List.mem_cons.1 hp with rfl | hp
  · cases w
    · exact xNo_met _ _ _ _ _ _
    · exact txOk_met _ _ _ _ _
  rcases List.mem_cons.1 hp with rfl | hp
  · cases w'
    · exact adNo_met _ _ _ _ _ _ _ _
    · exact adW_met .ok _ _ _ _ _ _ _
  rcases List.mem_cons.1 hp with rfl | hp
  · exact runC_met _ _ _ _ _ _
  rcases List.mem_cons.1 hp with rfl | hp
  · exact runC_met _ _ _ _ _ _
  rcases List.mem_cons.1 hp with rfl | hp
  · exact atC_met _ _ _ _ _ _ _ _ _
  rcases List.mem_cons.1 hp with rfl | hp
  · exact locC_met _ _ _ _ _ _ _ _ _
  rcases List.mem_cons.1 hp with rfl | hp
  · exact keptC_met _ _ _ _
  rcases List.mem_singleton.1 hp with rfl
  exact keptC_met _ _ _ _) (fun _ h => (by cases h)) (fun _ h => (by cases h))
theorem ctxW_holds (w : WayE) (r : Sy.CallC) (hr : Sy.Meets Try.prog r) (A : Option Addr) (c : Nat) (k b s : Int) (xs zs : List Int) : (ctxW w r A c k b s xs zs).holds Try.prog := Sy.mkS_holds (fun p hp a L => by
  rcases List.mem_cons.1 hp with rfl | hp
  · exact awC_met
  rcases List.mem_cons.1 hp with rfl | hp
  · exact hr
  rcases List.mem_cons.1 hp with rfl | hp
  · exact xE0_met _ _ _
  rcases List.mem_cons.1 hp with rfl | hp
  · exact aeW_met _ _ _ _ _ _
  rcases List.mem_cons.1 hp with rfl | hp
  · exact runC_met _ _ _ _ _ _
  rcases List.mem_singleton.1 hp with rfl
  exact keptC_met _ _ _ _) (fun _ h => (by cases h)) (fun _ h => (by cases h))

theorem sz34 {xs : List Int} (h : xs.length = 34) : (Array.mk (regC xs)).size = 34 := (regA_size xs).trans h
theorem okLens {l : List Nd} {b s k : Int} (hl : lenOk l) (ho : aOk b s l k) : (addrL b s l k).length ≤ 300000 := by
  have hpos := hl.1.1
  have h1 := (lay_fits ho.1.2.2 (i := l.length - 1) (by omega) (24 + k)).2
  have h2 := numL_le (24 + k + 1) (s - 1)
  have h3 := numL_le 29 (65536 + 8 * b)
  simp only [addrL, List.length_append, List.length_cons, List.length_nil]
  omega
theorem reg_at' {xs : List Int} (hx : xs.length = 34) {j : Nat} (h : j < 34) {v : Int} (hv : xs.getD j 0 = v) : (Sy.Cont.obj (Obj.cells (Array.mk (regC xs)) tR (0, 0))).at j = some (.int .u64 v) := by
  rw [← hv]
  exact reg_at (xs := xs) (j := j) (by omega) tR (0, 0)
theorem wayX (l : List Nd) (k : Int) : okX l k ∨ ∃ q, badX l k ∧ q = 0 ∨ regX l k ∧ q = 29 := by
  obtain ⟨w, h⟩ := ways l k
  cases w
  · exact .inr ⟨0, .inl ⟨h, rfl⟩⟩
  · exact .inr ⟨29, .inr ⟨h, rfl⟩⟩
  · exact .inl h
theorem wayY (b s : Int) (l : List Nd) (k : Int) : aOk b s l k ∨ ∃ q, aBad b s l k ∧ q = 0 ∨ aReg b s l k ∧ q = 29 := by
  rcases waysA b s l k with h | h | h
  · exact .inr ⟨0, .inl ⟨h, rfl⟩⟩
  · exact .inr ⟨29, .inr ⟨h, rfl⟩⟩
  · exact .inl h
theorem zerosR_good : goodLoc zerosR := fun j hj => by
  have : zerosR.getD j 0 = 0 := by
    unfold zerosR
    rcases j with _ | j
    · rfl
    · iterate 23 (rcases j with _ | j; · rfl)
      omega
  rw [this]; unfold goodU; omega

theorem valsR (gu ou cu mu : Nat) (ul : List Int) (hu : ul.length = mu + 1) (g o c : Nat) (l : List Nd) (k b s : Int) (hl : lenOk l) (W : World) (hs : (Sy.Cont.seg o (ndCells l)).sat W.heap[g]?) (hsu : (Sy.Cont.seg ou (numC8 ul)).sat W.heap[gu]?) : Calls Try.prog fVals (valsArgs (.slice (some ⟨g, o, none⟩) l.length c) k b s (.slice (some ⟨gu, ou, none⟩) (.succ mu) cu)) W fun e W' => e = .returned (.bool true) ∧ Below W.heap.size W W' := by
  have hr : Sy.Rep W (fun _ => True) [⟨g, .seg o (ndCells l), false⟩, ⟨gu, .seg ou (numC8 ul), false⟩] W := ⟨rfl, rfl, rfl, Nat.le_refl _, fun _ _ _ => rfl, fun p hp => by
    rcases List.mem_cons.1 hp with rfl | hp
    · exact ⟨hs, fun h => by cases h⟩
    rcases List.mem_singleton.1 hp with rfl
    exact ⟨hsu, fun h => by cases h⟩, List.pairwise_cons.2 ⟨fun p hp => by
      rcases List.mem_singleton.1 hp with rfl
      exact (fun h => by cases h), List.pairwise_singleton _ _⟩⟩
  have hpos := hl.1.1
  have le := leftE hl
  have hxl : (regsAt ul mu 31).length = 34 := regsAt_len _ _ _
  have hxg : goodLoc (regsAt ul mu 31) := regsAt_good _ _ _
  have sx := sz34 hxl
  have ax := regA_one (regsAt ul mu 31)
  rcases wayX l k with hx | ⟨q, hx⟩
  · obtain ⟨ys, ey, ly, gy, ky⟩ := expr_law hxl hxg hl hx
    have sy := sz34 ly
    have ay := regA_one ys
    have hk : 0 ≤ k ∧ k < 5 := ⟨hx.2.1, by have := hx.2.2; have := (tr l (l.length - 1)).needs_pos; omega⟩
    have w24 : Ex.wrapQ .i64 (Ex.addQ 24 k) = 24 + k := add_small (by omega) (by omega)
    have ny := (lay_fits hx.1 (i := l.length - 1) (by omega) (24 + k)).2
    have ny : (outL l k).length ≤ 1000000000 := Nat.le_trans ny (by decide)
    have aty := reg_at' ly (j := (24 + k).toNat) (by omega) gy
    rcases wayY b s l k with ha | ⟨q', ha⟩
    · obtain ⟨zs, ez, lz, gz, kz⟩ := addr_law hxl hxg hl ha
      have sz := sz34 lz
      have az := regA_one zs
      have atz := reg_at' lz (j := 29) (by omega) gz
      have nz := okLens hl ha
      have hk' := ha.1.2.1
      have hloc : 0 ≤ locV (regsAt ul mu 31) l b s ∧ locV (regsAt ul mu 31) l b s ≤ 4095 := by
        have hq := ha.1.1
        have hsb := hq.1.bound
        have p0 := Int.emod_nonneg (evalE (regsAt ul mu 31) (tr l (l.length - 1))) (b := s) (by omega)
        have p1 := Int.emod_lt_of_pos (evalE (regsAt ul mu 31) (tr l (l.length - 1))) (b := s) (by omega)
        unfold locV
        omega
      refine Sy.calls_of (ctxV_holds true true _ (regsC_met _ _ _ _ _ _) g o c l k b s 0 0 (regsAt ul mu 31) ys zs) mixed (vRtt_run gu ou cu mu ul g o c l k b s 0 0 (regsAt ul mu 31) ys zs) hr fun ns => ?_
      simp only [vRtt_R, Sy.Res.holds, Sy.b_and, Sy.b_or, Sy.b_not, Sy.b_f, Sy.b_and', Sy.b_or', Sy.q_lt, Sy.q_le, Sy.q_eq, Sy.b_tt, Sy.b_ft, not_true_eq_false, not_false_eq_true, le, w24, Int.toNat_natCast, Nat.zero_add, Nat.mul_one, false_or, tru_t, place_q hloc.1 (show locV (regsAt ul mu 31) l b s ≤ 4096 by omega)]
      refine ⟨trivial, fun _ => ⟨⟨hu, trivial⟩, fun _ => ⟨⟨sx.symm, sx.symm, ax⟩, ⟨⟨hl, hx⟩, fun _ => ⟨sx, ⟨hxl, ly, ny, ey⟩, fun _ => ⟨⟨sy.symm, sy.symm, ay⟩, ⟨by omega, by omega⟩, ⟨_, aty⟩, fun h4 => ⟨⟨⟨⟨hx.1, hl.2⟩, hxl, hxg⟩, by omega, by omega, by omega⟩, fun _ => ⟨fun hne => ?_, fun _ => ⟨sx, sy, ⟨⟨hxl, ly⟩, hk⟩, fun _ => ⟨fun h => absurd ky h, fun _ => ⟨⟨hl, ha⟩, fun _ => ⟨sx, ⟨hxl, lz, Nat.le_trans nz (by decide), ez⟩, fun _ => ⟨⟨sz.symm, sz.symm, az⟩, ⟨_, atz⟩, fun h9 => ⟨⟨⟨hl, ha.1.2.2⟩, ⟨hxl, hxg⟩, ha.1.1⟩, fun _ => ⟨fun hne => ?_, fun _ => ⟨sx, sz, ⟨⟨hxl, lz⟩, hk'⟩, fun _ => ⟨fun h => absurd kz h, fun _ => fun W' hr => ⟨trivial, hr.below⟩⟩⟩⟩⟩⟩⟩⟩⟩⟩⟩⟩⟩⟩⟩⟩⟩⟩
      · have := aty.symm.trans h4
        simp only [Option.some.injEq, Value.int.injEq, true_and] at this
        exact absurd this.symm hne
      · have := atz.symm.trans h9
        simp only [Option.some.injEq, Value.int.injEq, true_and] at this
        exact absurd this.symm hne
    · skip
      refine Sy.calls_of (ctxV_holds true false _ (regsC_met _ _ _ _ _ _) g o c l k b s 0 q' (regsAt ul mu 31) ys []) mixed (vRtf_run gu ou cu mu ul g o c l k b s 0 q' (regsAt ul mu 31) ys []) hr fun ns => ?_
      simp only [vRtf_R, Sy.Res.holds, Sy.b_and, Sy.b_or, Sy.b_not, Sy.b_f, Sy.b_and', Sy.b_or', Sy.q_lt, Sy.q_le, Sy.q_eq, Sy.b_tt, Sy.b_ft, not_true_eq_false, not_false_eq_true, le, w24, Int.toNat_natCast, Nat.zero_add, Nat.mul_one, false_or, tru_t]
      refine ⟨trivial, fun _ => ⟨⟨hu, trivial⟩, fun _ => ⟨⟨sx.symm, sx.symm, ax⟩, ⟨⟨hl, hx⟩, fun _ => ⟨sx, ⟨hxl, ly, ny, ey⟩, fun _ => ⟨⟨sy.symm, sy.symm, ay⟩, ⟨by omega, by omega⟩, ⟨_, aty⟩, fun h4 => ⟨⟨⟨⟨hx.1, hl.2⟩, hxl, hxg⟩, by omega, by omega, by omega⟩, fun _ => ⟨fun hne => ?_, fun _ => ⟨sx, sy, ⟨⟨hxl, ly⟩, hk⟩, fun _ => ⟨fun h => absurd ky h, fun _ => ⟨⟨hl, ha⟩, fun _ => fun W' hr => ⟨trivial, hr.below⟩⟩⟩⟩⟩⟩⟩⟩⟩⟩⟩⟩
      · have := aty.symm.trans h4
        simp only [Option.some.injEq, Value.int.injEq, true_and] at this
        exact absurd this.symm hne
  · rcases wayY b s l k with ha | ⟨q', ha⟩
    · obtain ⟨zs, ez, lz, gz, kz⟩ := addr_law hxl hxg hl ha
      have sz := sz34 lz
      have az := regA_one zs
      have atz := reg_at' lz (j := 29) (by omega) gz
      have nz := okLens hl ha
      have hk' := ha.1.2.1
      have hloc : 0 ≤ locV (regsAt ul mu 31) l b s ∧ locV (regsAt ul mu 31) l b s ≤ 4095 := by
        have hq := ha.1.1
        have hsb := hq.1.bound
        have p0 := Int.emod_nonneg (evalE (regsAt ul mu 31) (tr l (l.length - 1))) (b := s) (by omega)
        have p1 := Int.emod_lt_of_pos (evalE (regsAt ul mu 31) (tr l (l.length - 1))) (b := s) (by omega)
        unfold locV
        omega
      refine Sy.calls_of (ctxV_holds false true _ (regsC_met _ _ _ _ _ _) g o c l k b s q 0 (regsAt ul mu 31) [] zs) mixed (vRft_run gu ou cu mu ul g o c l k b s q 0 (regsAt ul mu 31) [] zs) hr fun ns => ?_
      simp only [vRft_R, Sy.Res.holds, Sy.b_and, Sy.b_or, Sy.b_not, Sy.b_f, Sy.b_and', Sy.b_or', Sy.q_lt, Sy.q_le, Sy.q_eq, Sy.b_tt, Sy.b_ft, not_true_eq_false, not_false_eq_true, false_or, tru_t, place_q hloc.1 (show locV (regsAt ul mu 31) l b s ≤ 4096 by omega)]
      refine ⟨trivial, fun _ => ⟨⟨hu, trivial⟩, fun _ => ⟨⟨sx.symm, sx.symm, ax⟩, ⟨⟨hl, hx⟩, fun _ => ⟨⟨hl, ha⟩, fun _ => ⟨sx, ⟨hxl, lz, Nat.le_trans nz (by decide), ez⟩, fun _ => ⟨⟨sz.symm, sz.symm, az⟩, ⟨_, atz⟩, fun h9 => ⟨⟨⟨hl, ha.1.2.2⟩, ⟨hxl, hxg⟩, ha.1.1⟩, fun _ => ⟨fun hne => ?_, fun _ => ⟨sx, sz, ⟨⟨hxl, lz⟩, hk'⟩, fun _ => ⟨fun h => absurd kz h, fun _ => fun W' hr => ⟨trivial, hr.below⟩⟩⟩⟩⟩⟩⟩⟩⟩⟩⟩⟩
      · have := atz.symm.trans h9
        simp only [Option.some.injEq, Value.int.injEq, true_and] at this
        exact absurd this.symm hne
    · skip
      refine Sy.calls_of (ctxV_holds false false _ (regsC_met _ _ _ _ _ _) g o c l k b s q q' (regsAt ul mu 31) [] []) mixed (vRff_run gu ou cu mu ul g o c l k b s q q' (regsAt ul mu 31) [] []) hr fun ns => ?_
      simp only [vRff_R, Sy.Res.holds, Sy.b_and, Sy.b_or, Sy.b_not, Sy.b_f, Sy.b_and', Sy.b_or', Sy.q_lt, Sy.q_le, Sy.q_eq, Sy.b_tt, Sy.b_ft, not_true_eq_false, not_false_eq_true, false_or, tru_t]
      refine ⟨trivial, fun _ => ⟨⟨hu, trivial⟩, fun _ => ⟨⟨sx.symm, sx.symm, ax⟩, ⟨⟨hl, hx⟩, fun _ => ⟨⟨hl, ha⟩, fun _ => fun W' hr => ⟨trivial, hr.below⟩⟩⟩⟩⟩⟩

theorem valsR0 (gu ou cu mu : Nat) (ul : List Int) (hu : ul.length = mu + 1) (A : Option Addr) (c : Nat) (k b s : Int) (W : World) (hsu : (Sy.Cont.seg ou (numC8 ul)).sat W.heap[gu]?) : Calls Try.prog fVals (valsArgs (.slice A 0 c) k b s (.slice (some ⟨gu, ou, none⟩) (.succ mu) cu)) W fun e W' => e = .returned (.bool true) ∧ Below W.heap.size W W' := by
  have hr : Sy.Rep W (fun _ => True) [⟨gu, .seg ou (numC8 ul), false⟩] W := ⟨rfl, rfl, rfl, Nat.le_refl _, fun _ _ _ => rfl, fun p hp => by
    rcases List.mem_singleton.1 hp with rfl
    exact ⟨hsu, fun h => by cases h⟩, List.pairwise_singleton _ _⟩
  have hxl : (regsAt ul mu 31).length = 34 := regsAt_len _ _ _
  have sx := sz34 hxl
  have ax := regA_one (regsAt ul mu 31)
  by_cases hz : zeroOk b s k
  · have hz' := hz
    obtain ⟨rfl, hb, hk⟩ := hz'
    obtain ⟨zs, ez, lz, gz, kz⟩ := zero_law (k := k) hxl hb hk
    have sz := sz34 lz
    have az := regA_one zs
    have atz := reg_at' lz (j := 29) (by omega) gz
    have nz := numL_le 29 (65536 + 8 * b)
    refine Sy.calls_of (ctxW_holds .ok _ (regsC_met _ _ _ _ _ _) A c k b 0 (regsAt ul mu 31) zs) mixed (wRo_run gu ou cu mu ul A c k b (regsAt ul mu 31) zs) hr fun ns => ?_
    simp only [wRo_R, Sy.Res.holds, Sy.b_and, Sy.b_or, Sy.b_not, Sy.b_f, Sy.b_and', Sy.b_or', Sy.q_lt, Sy.q_le, Sy.q_eq, Sy.b_tt, Sy.b_ft, not_true_eq_false, not_false_eq_true, false_or, tru_t, place_q hb.1 (show b ≤ 4096 by omega)]
    refine ⟨trivial, fun _ => ⟨⟨hu, trivial⟩, fun _ => ⟨⟨sx.symm, sx.symm, ax⟩, ⟨trivial, fun _ => ⟨⟨trivial, hb, hk⟩, fun _ => ⟨sx, ⟨hxl, lz, Nat.le_trans nz (by decide), ez⟩, fun _ => ⟨⟨sz.symm, sz.symm, az⟩, ⟨_, atz⟩, fun h9 => ⟨fun hne => ?_, fun _ => ⟨sx, sz, ⟨⟨hxl, lz⟩, hk⟩, fun _ => ⟨fun h => absurd kz h, fun _ => fun W' hr => ⟨trivial, hr.below⟩⟩⟩⟩⟩⟩⟩⟩⟩⟩⟩
    have := atz.symm.trans h9
    simp only [Option.some.injEq, Value.int.injEq, true_and] at this
    exact absurd this.symm hne
  · refine Sy.calls_of (ctxW_holds .bad _ (regsC_met _ _ _ _ _ _) A c k b s (regsAt ul mu 31) []) mixed (wRb_run gu ou cu mu ul A c k b s (regsAt ul mu 31) []) hr fun ns => ?_
    simp only [wRb_R, Sy.Res.holds]
    exact ⟨trivial, fun _ => ⟨⟨hu, trivial⟩, fun _ => ⟨⟨sx.symm, sx.symm, ax⟩, ⟨trivial, fun _ => ⟨hz, fun _ => fun W' hr => ⟨trivial, hr.below⟩⟩⟩⟩⟩⟩

theorem valsN (B : Option Addr) (cu : Nat) (g o c : Nat) (l : List Nd) (k b s : Int) (hl : lenOk l) (W : World) (hs : (Sy.Cont.seg o (ndCells l)).sat W.heap[g]?)  : Calls Try.prog fVals (valsArgs (.slice (some ⟨g, o, none⟩) l.length c) k b s (.slice B 0 cu)) W fun e W' => e = .returned (.bool true) ∧ Below W.heap.size W W' := by
  have hr : Sy.Rep W (fun _ => True) [⟨g, .seg o (ndCells l), false⟩] W := ⟨rfl, rfl, rfl, Nat.le_refl _, fun _ _ _ => rfl, fun p hp => by
    rcases List.mem_singleton.1 hp with rfl
    exact ⟨hs, fun h => by cases h⟩, List.pairwise_singleton _ _⟩
  have hpos := hl.1.1
  have le := leftE hl
  have hxl : (zerosR).length = 34 := rfl
  have hxg : goodLoc (zerosR) := zerosR_good
  have sx := sz34 hxl
  have ax := regA_one (zerosR)
  rcases wayX l k with hx | ⟨q, hx⟩
  · obtain ⟨ys, ey, ly, gy, ky⟩ := expr_law hxl hxg hl hx
    have sy := sz34 ly
    have ay := regA_one ys
    have hk : 0 ≤ k ∧ k < 5 := ⟨hx.2.1, by have := hx.2.2; have := (tr l (l.length - 1)).needs_pos; omega⟩
    have w24 : Ex.wrapQ .i64 (Ex.addQ 24 k) = 24 + k := add_small (by omega) (by omega)
    have ny := (lay_fits hx.1 (i := l.length - 1) (by omega) (24 + k)).2
    have ny : (outL l k).length ≤ 1000000000 := Nat.le_trans ny (by decide)
    have aty := reg_at' ly (j := (24 + k).toNat) (by omega) gy
    rcases wayY b s l k with ha | ⟨q', ha⟩
    · obtain ⟨zs, ez, lz, gz, kz⟩ := addr_law hxl hxg hl ha
      have sz := sz34 lz
      have az := regA_one zs
      have atz := reg_at' lz (j := 29) (by omega) gz
      have nz := okLens hl ha
      have hk' := ha.1.2.1
      have hloc : 0 ≤ locV (zerosR) l b s ∧ locV (zerosR) l b s ≤ 4095 := by
        have hq := ha.1.1
        have hsb := hq.1.bound
        have p0 := Int.emod_nonneg (evalE (zerosR) (tr l (l.length - 1))) (b := s) (by omega)
        have p1 := Int.emod_lt_of_pos (evalE (zerosR) (tr l (l.length - 1))) (b := s) (by omega)
        unfold locV
        omega
      refine Sy.calls_of (ctxV_holds true true _ (regs0C_met _ _ _) g o c l k b s 0 0 (zerosR) ys zs) mixed (vNtt_run B cu g o c l k b s 0 0 (zerosR) ys zs) hr fun ns => ?_
      simp only [vNtt_R, Sy.Res.holds, Sy.b_and, Sy.b_or, Sy.b_not, Sy.b_f, Sy.b_and', Sy.b_or', Sy.q_lt, Sy.q_le, Sy.q_eq, Sy.b_tt, Sy.b_ft, not_true_eq_false, not_false_eq_true, le, w24, Int.toNat_natCast, Nat.zero_add, Nat.mul_one, false_or, tru_t, place_q hloc.1 (show locV (zerosR) l b s ≤ 4096 by omega)]
      refine ⟨trivial, fun _ => ⟨trivial, fun _ => ⟨⟨sx.symm, sx.symm, ax⟩, ⟨⟨hl, hx⟩, fun _ => ⟨sx, ⟨hxl, ly, ny, ey⟩, fun _ => ⟨⟨sy.symm, sy.symm, ay⟩, ⟨by omega, by omega⟩, ⟨_, aty⟩, fun h4 => ⟨⟨⟨⟨hx.1, hl.2⟩, hxl, hxg⟩, by omega, by omega, by omega⟩, fun _ => ⟨fun hne => ?_, fun _ => ⟨sx, sy, ⟨⟨hxl, ly⟩, hk⟩, fun _ => ⟨fun h => absurd ky h, fun _ => ⟨⟨hl, ha⟩, fun _ => ⟨sx, ⟨hxl, lz, Nat.le_trans nz (by decide), ez⟩, fun _ => ⟨⟨sz.symm, sz.symm, az⟩, ⟨_, atz⟩, fun h9 => ⟨⟨⟨hl, ha.1.2.2⟩, ⟨hxl, hxg⟩, ha.1.1⟩, fun _ => ⟨fun hne => ?_, fun _ => ⟨sx, sz, ⟨⟨hxl, lz⟩, hk'⟩, fun _ => ⟨fun h => absurd kz h, fun _ => fun W' hr => ⟨trivial, hr.below⟩⟩⟩⟩⟩⟩⟩⟩⟩⟩⟩⟩⟩⟩⟩⟩⟩⟩
      · have := aty.symm.trans h4
        simp only [Option.some.injEq, Value.int.injEq, true_and] at this
        exact absurd this.symm hne
      · have := atz.symm.trans h9
        simp only [Option.some.injEq, Value.int.injEq, true_and] at this
        exact absurd this.symm hne
    · skip
      refine Sy.calls_of (ctxV_holds true false _ (regs0C_met _ _ _) g o c l k b s 0 q' (zerosR) ys []) mixed (vNtf_run B cu g o c l k b s 0 q' (zerosR) ys []) hr fun ns => ?_
      simp only [vNtf_R, Sy.Res.holds, Sy.b_and, Sy.b_or, Sy.b_not, Sy.b_f, Sy.b_and', Sy.b_or', Sy.q_lt, Sy.q_le, Sy.q_eq, Sy.b_tt, Sy.b_ft, not_true_eq_false, not_false_eq_true, le, w24, Int.toNat_natCast, Nat.zero_add, Nat.mul_one, false_or, tru_t]
      refine ⟨trivial, fun _ => ⟨trivial, fun _ => ⟨⟨sx.symm, sx.symm, ax⟩, ⟨⟨hl, hx⟩, fun _ => ⟨sx, ⟨hxl, ly, ny, ey⟩, fun _ => ⟨⟨sy.symm, sy.symm, ay⟩, ⟨by omega, by omega⟩, ⟨_, aty⟩, fun h4 => ⟨⟨⟨⟨hx.1, hl.2⟩, hxl, hxg⟩, by omega, by omega, by omega⟩, fun _ => ⟨fun hne => ?_, fun _ => ⟨sx, sy, ⟨⟨hxl, ly⟩, hk⟩, fun _ => ⟨fun h => absurd ky h, fun _ => ⟨⟨hl, ha⟩, fun _ => fun W' hr => ⟨trivial, hr.below⟩⟩⟩⟩⟩⟩⟩⟩⟩⟩⟩⟩
      · have := aty.symm.trans h4
        simp only [Option.some.injEq, Value.int.injEq, true_and] at this
        exact absurd this.symm hne
  · rcases wayY b s l k with ha | ⟨q', ha⟩
    · obtain ⟨zs, ez, lz, gz, kz⟩ := addr_law hxl hxg hl ha
      have sz := sz34 lz
      have az := regA_one zs
      have atz := reg_at' lz (j := 29) (by omega) gz
      have nz := okLens hl ha
      have hk' := ha.1.2.1
      have hloc : 0 ≤ locV (zerosR) l b s ∧ locV (zerosR) l b s ≤ 4095 := by
        have hq := ha.1.1
        have hsb := hq.1.bound
        have p0 := Int.emod_nonneg (evalE (zerosR) (tr l (l.length - 1))) (b := s) (by omega)
        have p1 := Int.emod_lt_of_pos (evalE (zerosR) (tr l (l.length - 1))) (b := s) (by omega)
        unfold locV
        omega
      refine Sy.calls_of (ctxV_holds false true _ (regs0C_met _ _ _) g o c l k b s q 0 (zerosR) [] zs) mixed (vNft_run B cu g o c l k b s q 0 (zerosR) [] zs) hr fun ns => ?_
      simp only [vNft_R, Sy.Res.holds, Sy.b_and, Sy.b_or, Sy.b_not, Sy.b_f, Sy.b_and', Sy.b_or', Sy.q_lt, Sy.q_le, Sy.q_eq, Sy.b_tt, Sy.b_ft, not_true_eq_false, not_false_eq_true, false_or, tru_t, place_q hloc.1 (show locV (zerosR) l b s ≤ 4096 by omega)]
      refine ⟨trivial, fun _ => ⟨trivial, fun _ => ⟨⟨sx.symm, sx.symm, ax⟩, ⟨⟨hl, hx⟩, fun _ => ⟨⟨hl, ha⟩, fun _ => ⟨sx, ⟨hxl, lz, Nat.le_trans nz (by decide), ez⟩, fun _ => ⟨⟨sz.symm, sz.symm, az⟩, ⟨_, atz⟩, fun h9 => ⟨⟨⟨hl, ha.1.2.2⟩, ⟨hxl, hxg⟩, ha.1.1⟩, fun _ => ⟨fun hne => ?_, fun _ => ⟨sx, sz, ⟨⟨hxl, lz⟩, hk'⟩, fun _ => ⟨fun h => absurd kz h, fun _ => fun W' hr => ⟨trivial, hr.below⟩⟩⟩⟩⟩⟩⟩⟩⟩⟩⟩⟩
      · have := atz.symm.trans h9
        simp only [Option.some.injEq, Value.int.injEq, true_and] at this
        exact absurd this.symm hne
    · skip
      refine Sy.calls_of (ctxV_holds false false _ (regs0C_met _ _ _) g o c l k b s q q' (zerosR) [] []) mixed (vNff_run B cu g o c l k b s q q' (zerosR) [] []) hr fun ns => ?_
      simp only [vNff_R, Sy.Res.holds, Sy.b_and, Sy.b_or, Sy.b_not, Sy.b_f, Sy.b_and', Sy.b_or', Sy.q_lt, Sy.q_le, Sy.q_eq, Sy.b_tt, Sy.b_ft, not_true_eq_false, not_false_eq_true, false_or, tru_t]
      refine ⟨trivial, fun _ => ⟨trivial, fun _ => ⟨⟨sx.symm, sx.symm, ax⟩, ⟨⟨hl, hx⟩, fun _ => ⟨⟨hl, ha⟩, fun _ => fun W' hr => ⟨trivial, hr.below⟩⟩⟩⟩⟩⟩

theorem valsN0 (B : Option Addr) (cu : Nat) (A : Option Addr) (c : Nat) (k b s : Int) (W : World)  : Calls Try.prog fVals (valsArgs (.slice A 0 c) k b s (.slice B 0 cu)) W fun e W' => e = .returned (.bool true) ∧ Below W.heap.size W W' := by
  have hr := Sy.rep_start W
  have hxl : (zerosR).length = 34 := rfl
  have sx := sz34 hxl
  have ax := regA_one (zerosR)
  by_cases hz : zeroOk b s k
  · have hz' := hz
    obtain ⟨rfl, hb, hk⟩ := hz'
    obtain ⟨zs, ez, lz, gz, kz⟩ := zero_law (k := k) hxl hb hk
    have sz := sz34 lz
    have az := regA_one zs
    have atz := reg_at' lz (j := 29) (by omega) gz
    have nz := numL_le 29 (65536 + 8 * b)
    refine Sy.calls_of (ctxW_holds .ok _ (regs0C_met _ _ _) A c k b 0 (zerosR) zs) mixed (wNo_run B cu A c k b (zerosR) zs) hr fun ns => ?_
    simp only [wNo_R, Sy.Res.holds, Sy.b_and, Sy.b_or, Sy.b_not, Sy.b_f, Sy.b_and', Sy.b_or', Sy.q_lt, Sy.q_le, Sy.q_eq, Sy.b_tt, Sy.b_ft, not_true_eq_false, not_false_eq_true, false_or, tru_t, place_q hb.1 (show b ≤ 4096 by omega)]
    refine ⟨trivial, fun _ => ⟨trivial, fun _ => ⟨⟨sx.symm, sx.symm, ax⟩, ⟨trivial, fun _ => ⟨⟨trivial, hb, hk⟩, fun _ => ⟨sx, ⟨hxl, lz, Nat.le_trans nz (by decide), ez⟩, fun _ => ⟨⟨sz.symm, sz.symm, az⟩, ⟨_, atz⟩, fun h9 => ⟨fun hne => ?_, fun _ => ⟨sx, sz, ⟨⟨hxl, lz⟩, hk⟩, fun _ => ⟨fun h => absurd kz h, fun _ => fun W' hr => ⟨trivial, hr.below⟩⟩⟩⟩⟩⟩⟩⟩⟩⟩⟩
    have := atz.symm.trans h9
    simp only [Option.some.injEq, Value.int.injEq, true_and] at this
    exact absurd this.symm hne
  · refine Sy.calls_of (ctxW_holds .bad _ (regs0C_met _ _ _) A c k b s (zerosR) []) mixed (wNb_run B cu A c k b s (zerosR) []) hr fun ns => ?_
    simp only [wNb_R, Sy.Res.holds]
    exact ⟨trivial, fun _ => ⟨trivial, fun _ => ⟨⟨sx.symm, sx.symm, ax⟩, ⟨trivial, fun _ => ⟨hz, fun _ => fun W' hr => ⟨trivial, hr.below⟩⟩⟩⟩⟩⟩

end Go.Proofs.Ytgaejhhipnpopaa
