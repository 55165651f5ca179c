/-
  LowerWords: the call, of any arguments.
-/
import Derived.Test.YtgaejhhipnpopaaLwWc
namespace Go.Proofs.Ytgaejhhipnpopaa
set_option linter.unusedVariables false
set_option linter.unusedSimpArgs false
open Go Go.RowKit
open Sy (Let Blk)
set_option linter.unusedVariables false
set_option linter.unusedSimpArgs false

theorem ctxWv_holds (w w' : Bool) (g o c : Nat) (l : List Nd) (k b s : Int) (q q' : Nat) (N : List I) (xs : List Value) (L : List I) : (ctxWv w w' g o c l k b s q q' N xs L).holds Try.prog := Sy.mkS_holds (fun p hp a L => by
  rcases List.mem_cons.1 hp with rfl | hp
  · exact awC_met
  rcases List.mem_cons.1 hp with rfl | hp
  · cases w
    · exact xNoW_met _ _ _ _ _ _
    · exact txOk_met _ _ _ _ _
  rcases List.mem_cons.1 hp with rfl | hp
  · cases w'
    · exact adNoW_met _ _ _ _ _ _ _ _
    · exact adW_met .ok _ _ _ _ _ _ _
  rcases List.mem_singleton.1 hp with rfl
  exact numO_met _ _ _) (fun p hp a L => by
  rcases List.mem_singleton.1 hp with rfl
  exact loopWd_met _ _ _ _ _) (fun _ h => (by cases h))
theorem ctxWw_holds (w : WayE) (A : Option Addr) (c : Nat) (k b s : Int) (N Z : List I) (xs : List Value) (L : List I) : (ctxWw w A c k b s N Z xs L).holds Try.prog := Sy.mkS_holds (fun p hp a L => by
  rcases List.mem_cons.1 hp with rfl | hp
  · exact awC_met
  rcases List.mem_cons.1 hp with rfl | hp
  · exact xE0W_met _ _ _
  rcases List.mem_cons.1 hp with rfl | hp
  · cases w
    · exact aeW_met .bad _ _ _ _ _
    · exact aeZ'_met _ _ _ _ _ _
  rcases List.mem_singleton.1 hp with rfl
  exact numO_met _ _ _) (fun p hp a L => by
  rcases List.mem_singleton.1 hp with rfl
  exact loopWd_met _ _ _ _ _) (fun _ h => (by cases h))

theorem wayXW (l : List Nd) (k : Int) : okX l k ∨ ∃ q, badX l k ∧ q = 0 ∨ regX l k ∧ q = 29 := by
  obtain ⟨w, h⟩ := ways l k
  cases w
  · exact .inr ⟨0, .inl ⟨h, rfl⟩⟩
  · exact .inr ⟨29, .inr ⟨h, rfl⟩⟩
  · exact .inl h
theorem wayYW (b s : Int) (l : List Nd) (k : Int) : aOk b s l k ∨ ∃ q, aBad b s l k ∧ q = 0 ∨ aReg b s l k ∧ q = 29 := by
  rcases waysA b s l k with h | h | h
  · exact .inr ⟨0, .inl ⟨h, rfl⟩⟩
  · exact .inr ⟨29, .inr ⟨h, rfl⟩⟩
  · exact .inl h
theorem fits_app {l m : List I} (h1 : ∀ i ∈ l, fitS i) (h2 : ∀ i ∈ m, fitS i) : ∀ i ∈ l ++ m, fitS i := fun i hi => (List.mem_append.1 hi).elim (h1 i) (h2 i)
theorem okLensW {l : List Nd} {b s k : Int} (hl : lenOk l) (ho : aOk b s l k) : 0 < (addrL b s l k).length ∧ (addrL b s l k).length ≤ 300000 := by
  have hpos := hl.1.1
  have h1 := (lay_fits ho.1.2.2 (i := l.length - 1) (by omega) (24 + k)).2
  have h2 := numL_le (24 + k + 1) (s - 1)
  have h3 := numL_le 29 (65536 + 8 * b)
  simp only [addrL, List.length_append, List.length_cons, List.length_nil]
  omega

theorem wordsV (g o c : Nat) (l : List Nd) (k b s v : Int) (hv : goodU v) (hl : lenOk l) (W : World) (hs : (Sy.Cont.seg o (ndCells l)).sat W.heap[g]?) : Calls Try.prog fWords (wordsArgs (.slice (some ⟨g, o, none⟩) l.length c) k b s v) W fun e W' => e = .returned (.bool true) ∧ Below W.heap.size W W' := by
  have hr : Sy.Rep W (fun _ => True) [⟨g, .seg o (ndCells l), false⟩] W := ⟨rfl, rfl, rfl, Nat.le_refl _, fun _ _ _ => rfl, fun p hp => by
    rcases List.mem_singleton.1 hp with rfl
    exact ⟨hs, fun h => by cases h⟩, List.pairwise_singleton _ _⟩
  have hpos := hl.1.1
  have n1 := numL_le 24 v
  have n2 := numL_pos 24 v
  have nf : ∀ i ∈ numL 24 v, fitS i := numL_fit (by decide)
  rcases wayXW l k with hx | ⟨q, hx⟩
  · have a1 := lay_fits hx.1 (i := l.length - 1) (by omega) (24 + k)
    have a2 : 0 < (outL l k).length ∧ (outL l k).length ≤ 262144 := a1
    have af := outL_fit hl hx
    rcases wayYW b s l k with ha | ⟨q', ha⟩
    · have b2 := okLensW hl ha
      have bf := addrL_fit hl ha
      refine Sy.calls_of (ctxWv_holds true true g o c l k b s 0 0 _ _ _) mixed (wvtt_run g o c l k b s v 0 0 (numL 24 v)) hr fun ns => ?_
      simp only [wvtt_R, Sy.Res.holds]
      refine ⟨trivial, fun _ => ⟨⟨hl, hx⟩, fun _ => ⟨⟨hl, ha⟩, fun _ => ⟨⟨hv, trivial⟩, fun _ => ⟨⟨trivial, insC_len _, insC_one _⟩, by omega, by omega, by omega, fun _ => ⟨⟨trivial, insC_len _, insC_one _⟩, by omega, by omega, by omega, fun _ => ⟨⟨trivial, insC_len _, insC_one _⟩, by omega, by omega, by omega, fun _ => ⟨⟨⟨?_, ?_, ?_⟩, ?_⟩, fun _ => fun W' hr => ⟨trivial, hr.below⟩⟩⟩⟩⟩⟩⟩⟩⟩
      · first | (simp only [List.length_append]; omega) | omega
      · omega
      · simp [insCells]
      · exact fits_app (af) (fits_app (bf) (nf))
    · skip
      refine Sy.calls_of (ctxWv_holds true false g o c l k b s 0 q' _ _ _) mixed (wvtf_run g o c l k b s v 0 q' (numL 24 v)) hr fun ns => ?_
      simp only [wvtf_R, Sy.Res.holds]
      refine ⟨trivial, fun _ => ⟨⟨hl, hx⟩, fun _ => ⟨⟨hl, ha⟩, fun _ => ⟨⟨hv, trivial⟩, fun _ => ⟨⟨trivial, insC_len _, insC_one _⟩, by omega, by omega, by omega, fun _ => fun _ => ⟨⟨trivial, insC_len _, insC_one _⟩, by omega, by omega, by omega, fun _ => ⟨⟨⟨?_, ?_, ?_⟩, ?_⟩, fun _ => fun W' hr => ⟨trivial, hr.below⟩⟩⟩⟩⟩⟩⟩⟩
      · first | (simp only [List.length_append]; omega) | omega
      · omega
      · simp [insCells]
      · exact fits_app (af) (nf)
  · rcases wayYW b s l k with ha | ⟨q', ha⟩
    · have b2 := okLensW hl ha
      have bf := addrL_fit hl ha
      refine Sy.calls_of (ctxWv_holds false true g o c l k b s q 0 _ _ _) mixed (wvft_run g o c l k b s v q 0 (numL 24 v)) hr fun ns => ?_
      simp only [wvft_R, Sy.Res.holds]
      refine ⟨trivial, fun _ => ⟨⟨hl, hx⟩, fun _ => ⟨⟨hl, ha⟩, fun _ => ⟨⟨hv, trivial⟩, fun _ => ⟨⟨trivial, insC_len _, insC_one _⟩, by omega, by omega, by omega, fun _ => ⟨⟨trivial, insC_len _, insC_one _⟩, by omega, by omega, by omega, fun _ => ⟨⟨⟨?_, ?_, ?_⟩, ?_⟩, fun _ => fun W' hr => ⟨trivial, hr.below⟩⟩⟩⟩⟩⟩⟩⟩
      · first | (simp only [List.length_append]; omega) | omega
      · omega
      · simp [insCells]
      · exact fits_app (bf) (nf)
    · skip
      refine Sy.calls_of (ctxWv_holds false false g o c l k b s q q' _ _ _) mixed (wvff_run g o c l k b s v q q' (numL 24 v)) hr fun ns => ?_
      simp only [wvff_R, Sy.Res.holds]
      refine ⟨trivial, fun _ => ⟨⟨hl, hx⟩, fun _ => ⟨⟨hl, ha⟩, fun _ => ⟨⟨hv, trivial⟩, fun _ => ⟨⟨trivial, insC_len _, insC_one _⟩, by omega, by omega, by omega, fun _ => ⟨⟨⟨?_, ?_, ?_⟩, ?_⟩, fun _ => fun W' hr => ⟨trivial, hr.below⟩⟩⟩⟩⟩⟩⟩
      · first | (simp only [List.length_append]; omega) | omega
      · omega
      · simp [insCells]
      · exact nf

theorem wordsW (A : Option Addr) (c : Nat) (k b s v : Int) (hv : goodU v) (W : World) : Calls Try.prog fWords (wordsArgs (.slice A 0 c) k b s v) W fun e W' => e = .returned (.bool true) ∧ Below W.heap.size W W' := by
  have hr := Sy.rep_start W
  have n1 := numL_le 24 v
  have n2 := numL_pos 24 v
  have nf : ∀ i ∈ numL 24 v, fitS i := numL_fit (by decide)
  by_cases hz : zeroOk b s k
  · obtain rfl := hz.1
    have z1 := numL_le 29 (65536 + 8 * b)
    have z2 := numL_pos 29 (65536 + 8 * b)
    have zf : ∀ i ∈ numL 29 (65536 + 8 * b), fitS i := numL_fit (by decide)
    refine Sy.calls_of (ctxWw_holds .ok A c k b 0 _ _ _ _) mixed (wwo_run A c k b v (numL 24 v) (numL 29 (65536 + 8 * b))) hr fun ns => ?_
    simp only [wwo_R, Sy.Res.holds]
    refine ⟨trivial, fun _ => ⟨trivial, fun _ => ⟨⟨hz, trivial⟩, fun _ => ⟨⟨hv, trivial⟩, fun _ => ⟨⟨trivial, insC_len _, insC_one _⟩, by omega, by omega, by omega, fun _ => ⟨⟨trivial, insC_len _, insC_one _⟩, by omega, by omega, by omega, fun _ => ⟨⟨⟨?_, ?_, ?_⟩, ?_⟩, fun _ => fun W' hr => ⟨trivial, hr.below⟩⟩⟩⟩⟩⟩⟩⟩
    · first | (simp only [List.length_append]; omega) | omega
    · omega
    · simp [insCells]
    · exact fits_app (zf) (nf)
  · skip
    refine Sy.calls_of (ctxWw_holds .bad A c k b s _ [] _ _) mixed (wwb_run A c k b s v (numL 24 v) []) hr fun ns => ?_
    simp only [wwb_R, Sy.Res.holds]
    refine ⟨trivial, fun _ => ⟨trivial, fun _ => ⟨hz, fun _ => ⟨⟨hv, trivial⟩, fun _ => ⟨⟨trivial, insC_len _, insC_one _⟩, by omega, by omega, by omega, fun _ => ⟨⟨⟨?_, ?_, ?_⟩, ?_⟩, fun _ => fun W' hr => ⟨trivial, hr.below⟩⟩⟩⟩⟩⟩⟩
    · first | (simp only [List.length_append]; omega) | omega
    · omega
    · simp [insCells]
    · exact nf

end Go.Proofs.Ytgaejhhipnpopaa
