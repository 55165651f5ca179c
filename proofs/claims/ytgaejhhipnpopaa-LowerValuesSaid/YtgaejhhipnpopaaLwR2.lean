/-
  Instructions that are run, by the reference: the loop, and the call.
-/
import Derived.Test.YtgaejhhipnpopaaLwR
namespace Go.Proofs.Ytgaejhhipnpopaa
open Go Go.RowKit
open Sy (Let Blk)

theorem stepR_ok {xs ys : List Int} {i : I} (h : stepR xs i = some ys) : (¬ i.rd < 0 ∧ ¬ 30 < i.rd) ∧ (¬ i.rn < 0 ∧ ¬ 31 < i.rn) ∧ ¬ i.rm < 0 ∧ ¬ 31 < i.rm := by
  unfold stepR at h
  by_cases h1 : i.rd < 0
  · rw [if_pos h1] at h; cases h
  rw [if_neg h1] at h
  by_cases h2 : 30 < i.rd
  · rw [if_pos h2] at h; cases h
  rw [if_neg h2] at h
  by_cases h3 : i.rn < 0
  · rw [if_pos h3] at h; cases h
  rw [if_neg h3] at h
  by_cases h4 : 31 < i.rn
  · rw [if_pos h4] at h; cases h
  rw [if_neg h4] at h
  by_cases h5 : i.rm < 0
  · rw [if_pos h5] at h; cases h
  rw [if_neg h5] at h
  by_cases h6 : 31 < i.rm
  · rw [if_pos h6] at h; cases h
  exact ⟨⟨h1, h2⟩, ⟨h3, h4⟩, h5, h6⟩

theorem wrap_pos (x : Int) : 0 ≤ Ex.wrapQ .u64 x := by
  rw [Ex.wrapQ_eq]
  simp [IntKind.wrap, IntKind.signed, IntKind.bits]
  omega
theorem and_pos (x y : Int) : 0 ≤ Ex.andQ .u64 x y := wrap_pos _

theorem loopR_met (gl ol cl gr g4 : Nat) (l : List I) (xs zs s' : List Int) : Sy.MeetsL Try.prog (loopR gl ol cl gr g4 l xs zs s') := by
  refine Sy.loop_ofS (n := 80) (fn := fRun) (σ := Nat × List Int) (S := fun s => ctxR s.2) (fun s => ctxR_holds s.2) mixed (body := bodyR) rfl [1, 2, 4, 5, 6] (fun s => slR gl ol cl l.length gr g4 s.1) (fun s => memR gl ol gr g4 (insCells l) s.2 zs)
    (fun s => s.1 ≤ l.length ∧ s.2.length = 34 ∧ l.length ≤ 1000000000 ∧ runL s.2 (l.drop s.1) = some s') (fun s => l.length - s.1)
    (0, xs) (fun h => ⟨Nat.zero_le _, h.1, h.2.1, h.2.2⟩) (fun p hp => hp) [0, 1, 2] (by decide) rfl (o := fun _ => runB_o) (R := fun s rest => runB_R gl ol cl l.length gr g4 s.1 (insCells l) s.2 zs rest) (fun s rest _ => runB_run gl ol cl l.length gr g4 s.1 (insCells l) s.2 zs rest) ?_
  rintro - ⟨k, ys⟩ rest ⟨hk, hy, hm, hr⟩ ns
  simp only at hk hy hr
  simp only [runB_R, Sy.Res.holds, lt_t, lt_f, eq_t, eq_f]
  refine ⟨fun hlt => ?_, fun hge => ?_⟩
  · have hlt : k < l.length := by omega
    have ea : l[k]? = some l[k] := List.getElem?_eq_getElem hlt
    have hd : l.drop k = l[k] :: l.drop (k + 1) := List.drop_eq_getElem_cons hlt
    rw [hd] at hr
    obtain ⟨a0, a1, a2, a3, a4, a5⟩ := ins_at ea ol
    simp only [a0, a1, a2, a3, a4, a5, some_int, exists_eq', true_and]
    generalize l[k] = x at *
    obtain ⟨y1, hstep⟩ : ∃ y1, stepR ys x = some y1 := by
      simp only [runL] at hr
      cases hs : stepR ys x with
      | none => rw [hs] at hr; cases hr
      | some y1 => exact ⟨y1, rfl⟩
    obtain ⟨⟨r1, r2⟩, ⟨r3, r4⟩, r5, r6⟩ := stepR_ok hstep
    refine ⟨by omega, fun h0 h1 h2 h3 h4 h5 => ?_⟩
    simp only [← h0, ← h1, ← h2, ← h3, ← h4, ← h5]
    have hl1 : (ys.set 31 0).length = 34 := by simpa using hy
    have en := reg_at (xs := ys.set 31 0) (j := x.rn.toNat) (by omega) tR (0, 0)
    have em := reg_at (xs := ys.set 31 0) (j := x.rm.toNat) (by omega) tR (0, 0)
    have ed := reg_at (xs := ys.set 31 0) (j := x.rd.toNat) (by omega) tR (0, 0)
    refine ⟨fun h => ?_, fun _ => ?_⟩
    · exfalso
      simp only [Sy.b_or, Sy.q_lt] at h
      omega
    simp only [regA_set, regA_size, Nat.zero_add, Nat.mul_one, en, em, ed, some_int, exists_eq', true_and, List.length_set, hy]
    refine ⟨by omega, by omega, fun h7 => ⟨by omega, fun h8 => ?_⟩⟩
    simp only [← h7, ← h8]
    have D : 0 ≤ x.rd ∧ x.rd < 32 := by omega
    have E : x.rd.toNat < 34 := by omega
    refine ⟨fun c1 => ⟨wrap_pos _, D, E, runB_end hlt hm (by unfold stepR; dsimp only; (rw [if_neg r1, if_neg r2, if_neg r3, if_neg r4, if_neg r5, if_neg r6, if_pos c1]) <;> rfl) (by simp [hy]) hr⟩, fun c1 => ?_⟩
    refine ⟨fun c2 => ⟨D, fun h9 => ⟨wrap_pos _, wrap_pos _, D, E, ?_⟩⟩, fun c2 => ?_⟩
    · simp only [← h9]
      exact runB_end hlt hm (by unfold stepR; dsimp only; (rw [if_neg r1, if_neg r2, if_neg r3, if_neg r4, if_neg r5, if_neg r6, if_neg c1, if_pos c2]) <;> rfl) (by simp [hy]) hr
    refine ⟨fun c3 => ⟨D, E, runB_end hlt hm (by unfold stepR; dsimp only; (rw [if_neg r1, if_neg r2, if_neg r3, if_neg r4, if_neg r5, if_neg r6, if_neg c1, if_neg c2, if_pos c3]) <;> rfl) (by simp [hy]) hr⟩, fun c3 => ?_⟩
    refine ⟨fun c4 => ⟨D, E, runB_end hlt hm (by unfold stepR; dsimp only; (rw [if_neg r1, if_neg r2, if_neg r3, if_neg r4, if_neg r5, if_neg r6, if_neg c1, if_neg c2, if_neg c3, if_pos c4]) <;> rfl) (by simp [hy]) hr⟩, fun c4 => ?_⟩
    refine ⟨fun c9 => ⟨D, E, runB_end hlt hm (by unfold stepR; dsimp only; (rw [if_neg r1, if_neg r2, if_neg r3, if_neg r4, if_neg r5, if_neg r6, if_neg c1, if_neg c2, if_neg c3, if_neg c4, if_pos c9]) <;> rfl) (by simp [hy]) hr⟩, fun c9 => ?_⟩
    refine ⟨fun c5 => ⟨D, E, runB_end hlt hm (by unfold stepR; dsimp only; (rw [if_neg r1, if_neg r2, if_neg r3, if_neg r4, if_neg r5, if_neg r6, if_neg c1, if_neg c2, if_neg c3, if_neg c4, if_neg c9, if_pos c5]) <;> rfl) (by simp [hy]) hr⟩, fun c5 => ?_⟩
    refine ⟨fun c6 => ⟨D, E, runB_end hlt hm (by unfold stepR; dsimp only; (rw [if_neg r1, if_neg r2, if_neg r3, if_neg r4, if_neg r5, if_neg r6, if_neg c1, if_neg c2, if_neg c3, if_neg c4, if_neg c9, if_neg c5, if_pos c6]) <;> rfl) (by simp [hy]) hr⟩, fun c6 => ?_⟩
    refine ⟨fun c7 => ⟨D, E, runB_end hlt hm (by unfold stepR; dsimp only; (rw [if_neg r1, if_neg r2, if_neg r3, if_neg r4, if_neg r5, if_neg r6, if_neg c1, if_neg c2, if_neg c3, if_neg c4, if_neg c9, if_neg c5, if_neg c6, if_pos c7]) <;> rfl) (by simp [hy]) hr⟩, fun c7 => ?_⟩
    refine ⟨fun c8 => ⟨D, E, runB_end hlt hm (by unfold stepR; dsimp only; (rw [if_neg r1, if_neg r2, if_neg r3, if_neg r4, if_neg r5, if_neg r6, if_neg c1, if_neg c2, if_neg c3, if_neg c4, if_neg c9, if_neg c5, if_neg c6, if_neg c7, if_pos c8]) <;> rfl) (by simp [hy]) hr⟩, fun c8 => ?_⟩
    refine ⟨fun c10 => ⟨and_pos _ _, D, E, runB_end hlt hm (by unfold stepR; dsimp only; (rw [if_neg r1, if_neg r2, if_neg r3, if_neg r4, if_neg r5, if_neg r6, if_neg c1, if_neg c2, if_neg c3, if_neg c4, if_neg c9, if_neg c5, if_neg c6, if_neg c7, if_neg c8, if_pos c10]) <;> rfl) (by simp [hy]) hr⟩, fun c10 => ?_⟩
    refine ⟨fun c11 => ⟨and_pos _ _, D, E, runB_end hlt hm (by unfold stepR; dsimp only; (rw [if_neg r1, if_neg r2, if_neg r3, if_neg r4, if_neg r5, if_neg r6, if_neg c1, if_neg c2, if_neg c3, if_neg c4, if_neg c9, if_neg c5, if_neg c6, if_neg c7, if_neg c8, if_neg c10, if_pos c11]) <;> rfl) (by simp [hy]) hr⟩, fun c11 => ?_⟩
    refine ⟨fun c14 => ⟨wrap_pos _, D, E, runB_end hlt hm (by unfold stepR; dsimp only; (rw [if_neg r1, if_neg r2, if_neg r3, if_neg r4, if_neg r5, if_neg r6, if_neg c1, if_neg c2, if_neg c3, if_neg c4, if_neg c9, if_neg c5, if_neg c6, if_neg c7, if_neg c8, if_neg c10, if_neg c11, if_pos c14]) <;> rfl) (by simp [hy]) hr⟩, fun c14 => ?_⟩
    refine ⟨fun c16 => ⟨by omega, by omega, runB_end hlt hm (by unfold stepR; dsimp only; (rw [if_neg r1, if_neg r2, if_neg r3, if_neg r4, if_neg r5, if_neg r6, if_neg c1, if_neg c2, if_neg c3, if_neg c4, if_neg c9, if_neg c5, if_neg c6, if_neg c7, if_neg c8, if_neg c10, if_neg c11, if_neg c14, if_pos c16]) <;> rfl) (by simp [hy]) hr⟩, fun c16 => ?_⟩
    refine ⟨fun c17 => ?_, fun c17 => ?_⟩
    · have g32 : (regA (ys.set 31 0))[32]? = some (.int .u64 (ys.getD 32 0)) := by rw [regA_get (by omega)]; simp
      have g33 : (regA (ys.set 31 0))[33]? = some (.int .u64 (ys.getD 33 0)) := by rw [regA_get (by omega)]; simp
      refine ⟨⟨g32, g33⟩, fun _ => ⟨fun c => ⟨D, E, ?_⟩, fun c => ⟨D, E, ?_⟩⟩⟩
      · have c : condB (ys.getD 32 0) (ys.getD 33 0) x.cond = true := c
        exact runB_end hlt hm (by unfold stepR; dsimp only; (rw [if_neg r1, if_neg r2, if_neg r3, if_neg r4, if_neg r5, if_neg r6, if_neg c1, if_neg c2, if_neg c3, if_neg c4, if_neg c9, if_neg c5, if_neg c6, if_neg c7, if_neg c8, if_neg c10, if_neg c11, if_neg c14, if_neg c16, if_pos c17, if_pos c]) <;> rfl) (by simp [hy]) hr
      · have c : condB (ys.getD 32 0) (ys.getD 33 0) x.cond = false := c
        have c : ¬ condB (ys.getD 32 0) (ys.getD 33 0) x.cond = true := by rw [c]; exact Bool.false_ne_true
        exact runB_end hlt hm (by unfold stepR; dsimp only; (rw [if_neg r1, if_neg r2, if_neg r3, if_neg r4, if_neg r5, if_neg r6, if_neg c1, if_neg c2, if_neg c3, if_neg c4, if_neg c9, if_neg c5, if_neg c6, if_neg c7, if_neg c8, if_neg c10, if_neg c11, if_neg c14, if_neg c16, if_pos c17, if_neg c]) <;> rfl) (by simp [hy]) hr
    · exfalso
      unfold stepR at hstep
      dsimp only at hstep
      rw [if_neg r1, if_neg r2, if_neg r3, if_neg r4, if_neg r5, if_neg r6, if_neg c1, if_neg c2, if_neg c3, if_neg c4, if_neg c9, if_neg c5, if_neg c6, if_neg c7, if_neg c8, if_neg c10, if_neg c11, if_neg c14, if_neg c16, if_neg c17] at hstep
      cases hstep
  · have : k = l.length := by omega
    subst this
    rw [List.drop_length] at hr
    simp only [runL, Option.some.injEq] at hr
    subst hr
    exact ⟨rfl, .inr ⟨by simp, _, List.mem_singleton_self _, rfl, [], rfl, ⟨[1, 2, 3], rfl⟩, ⟨[1, 2], by decide, ⟨⟨rfl, rfl, .inl rfl⟩, ⟨rfl, rfl, .inl rfl⟩, trivial⟩⟩, trivial⟩⟩

end Go.Proofs.Ytgaejhhipnpopaa
