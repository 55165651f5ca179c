/-
  LowerWords: the plain law: all instructions that are laid have words.
-/
import Derived.Test.YtgaejhhipnpopaaLwWa
namespace Go.Proofs.Ytgaejhhipnpopaa
open Go Go.RowKit
set_option linter.unusedVariables false
set_option linter.unusedSimpArgs false

/-- One that may be. -/
def tameE : E → Prop
  | .num v => goodU v
  | .loc v => 0 ≤ v ∧ v < 24
  | .un op x => (3 ≤ op ∧ op ≤ 5) ∧ tameE x
  | .bin op x y => (6 ≤ op ∧ op ≤ 19) ∧ tameE x ∧ tameE y
theorem tr_tame {l : List Nd} (h : nodesOk 24 l) (hg : goodN l) : ∀ n i, i < n → i < l.length → tameE (tr l i)
  | 0, _, hi, _ => absurd hi (Nat.not_lt_zero _)
  | n + 1, i, hi, hl => by
    have ea : l[i]? = some l[i] := List.getElem?_eq_getElem hl
    have hx := h i _ ea
    have hv : goodU l[i].val := hg _ (List.getElem_mem hl)
    generalize l[i] = x at *
    rcases hx with ⟨h1, -, -⟩ | ⟨h1, -, -, h2⟩ | ⟨h1, h2, -, h3, h4, -⟩ | ⟨h1, h2, -, h3, h4, h5, h6⟩
    · rw [tr_num ea (by omega)]; exact hv
    · rw [tr_loc ea h1]; unfold goodU at hv; exact ⟨by omega, h2⟩
    · rw [tr_un ea h1 h2 (by omega)]; exact ⟨⟨h1, h2⟩, tr_tame h hg n _ (by omega) (by omega)⟩
    · rw [tr_bin ea h1 (by omega) (by omega)]; exact ⟨⟨h1, h2⟩, tr_tame h hg n _ (by omega) (by omega), tr_tame h hg n _ (by omega) (by omega)⟩

theorem in_reg {f : Cd.Fld} {v : Int} (hf : f.step = 1) (h0 : f.lo ≤ v) (h1 : v ≤ f.hi) : Cd.inB f v = true := by
  unfold Cd.inB
  rw [hf]
  simp [h0, h1, Int.tmod_one]
theorem in_zero : Cd.inB Cd.fz 0 = true := by decide
theorem fit_of {i : I} {k : Nat} (ho : i.op = k) (h1 : 1 ≤ k) (h2 : k ≤ 47) (h : Cd.fitsB (Cd.rowOf k) i.cd = true) : fitS i := by
  unfold fitS Cd.fitsI
  have e : i.cd.op = (k : Int) := ho
  rw [e]
  have r : Cd.rowAt (k : Int) = Cd.rowOf k := by
    unfold Cd.rowAt
    rw [if_pos (by omega), Int.toNat_natCast]
  rw [r, h]
  simp
  omega
theorem fits_of {r : Cd.Row} {i : Cd.I} (h0 : Cd.inB r.f0 i.rd = true) (h1 : Cd.inB r.f1 i.rn = true) (h2 : Cd.inB r.f2 i.rm = true) (h3 : Cd.inB r.f3 i.imm = true) (h4 : Cd.inB r.f4 i.cond = true) (ho : i.op = 14 → 1 ≤ i.imm) (hs : i.op ≠ 28 ∧ i.op ≠ 29) : Cd.fitsB r i = true := by
  unfold Cd.fitsB
  rw [h0, h1, h2, h3, h4]
  simp only [Bool.true_and]
  split
  · rename_i e; simpa using ho e
  · rw [if_neg (by omega)]

theorem fit_reg {op rd rn rm : Int} (ho : 3 ≤ op ∧ op ≤ 11) (h0 : 0 ≤ rd ∧ rd ≤ 31) (h1 : 0 ≤ rn ∧ rn ≤ 31) (h2 : 0 ≤ rm ∧ rm ≤ 31) : fitS ⟨op, rd, rn, rm, 0, 0⟩ := by
  obtain rfl | rfl | rfl | rfl | rfl | rfl | rfl | rfl | rfl : op = 3 ∨ op = 4 ∨ op = 5 ∨ op = 6 ∨ op = 7 ∨ op = 8 ∨ op = 9 ∨ op = 10 ∨ op = 11 := by omega
  · exact fit_of (k := 3) rfl (by decide) (by decide) (fits_of (in_reg rfl h0.1 h0.2) (in_reg rfl h1.1 h1.2) (in_reg rfl h2.1 h2.2) in_zero in_zero (fun h => by cases h) ⟨(fun h => by cases h), (fun h => by cases h)⟩)
  · exact fit_of (k := 4) rfl (by decide) (by decide) (fits_of (in_reg rfl h0.1 h0.2) (in_reg rfl h1.1 h1.2) (in_reg rfl h2.1 h2.2) in_zero in_zero (fun h => by cases h) ⟨(fun h => by cases h), (fun h => by cases h)⟩)
  · exact fit_of (k := 5) rfl (by decide) (by decide) (fits_of (in_reg rfl h0.1 h0.2) (in_reg rfl h1.1 h1.2) (in_reg rfl h2.1 h2.2) in_zero in_zero (fun h => by cases h) ⟨(fun h => by cases h), (fun h => by cases h)⟩)
  · exact fit_of (k := 6) rfl (by decide) (by decide) (fits_of (in_reg rfl h0.1 h0.2) (in_reg rfl h1.1 h1.2) (in_reg rfl h2.1 h2.2) in_zero in_zero (fun h => by cases h) ⟨(fun h => by cases h), (fun h => by cases h)⟩)
  · exact fit_of (k := 7) rfl (by decide) (by decide) (fits_of (in_reg rfl h0.1 h0.2) (in_reg rfl h1.1 h1.2) (in_reg rfl h2.1 h2.2) in_zero in_zero (fun h => by cases h) ⟨(fun h => by cases h), (fun h => by cases h)⟩)
  · exact fit_of (k := 8) rfl (by decide) (by decide) (fits_of (in_reg rfl h0.1 h0.2) (in_reg rfl h1.1 h1.2) (in_reg rfl h2.1 h2.2) in_zero in_zero (fun h => by cases h) ⟨(fun h => by cases h), (fun h => by cases h)⟩)
  · exact fit_of (k := 9) rfl (by decide) (by decide) (fits_of (in_reg rfl h0.1 h0.2) (in_reg rfl h1.1 h1.2) (in_reg rfl h2.1 h2.2) in_zero in_zero (fun h => by cases h) ⟨(fun h => by cases h), (fun h => by cases h)⟩)
  · exact fit_of (k := 10) rfl (by decide) (by decide) (fits_of (in_reg rfl h0.1 h0.2) (in_reg rfl h1.1 h1.2) (in_reg rfl h2.1 h2.2) in_zero in_zero (fun h => by cases h) ⟨(fun h => by cases h), (fun h => by cases h)⟩)
  · exact fit_of (k := 11) rfl (by decide) (by decide) (fits_of (in_reg rfl h0.1 h0.2) (in_reg rfl h1.1 h1.2) (in_reg rfl h2.1 h2.2) in_zero in_zero (fun h => by cases h) ⟨(fun h => by cases h), (fun h => by cases h)⟩)
theorem fit_mov {op rd imm c : Int} (ho : op = 1 ∨ op = 2) (h0 : 0 ≤ rd ∧ rd ≤ 31) (h1 : 0 ≤ imm ∧ imm ≤ 65535) (h2 : 0 ≤ c ∧ c ≤ 3) : fitS ⟨op, rd, 0, 0, imm, c⟩ := by
  rcases ho with rfl | rfl
  · exact fit_of (k := 1) rfl (by decide) (by decide) (fits_of (in_reg rfl h0.1 h0.2) in_zero in_zero (in_reg rfl h1.1 h1.2) (in_reg rfl h2.1 h2.2) (fun h => by cases h) ⟨(fun h => by cases h), (fun h => by cases h)⟩)
  · exact fit_of (k := 2) rfl (by decide) (by decide) (fits_of (in_reg rfl h0.1 h0.2) in_zero in_zero (in_reg rfl h1.1 h1.2) (in_reg rfl h2.1 h2.2) (fun h => by cases h) ⟨(fun h => by cases h), (fun h => by cases h)⟩)
theorem fit_cmp {rn rm : Int} (h1 : 0 ≤ rn ∧ rn ≤ 31) (h2 : 0 ≤ rm ∧ rm ≤ 31) : fitS ⟨16, 0, rn, rm, 0, 0⟩ :=
  fit_of (k := 16) rfl (by decide) (by decide) (fits_of in_zero (in_reg rfl h1.1 h1.2) (in_reg rfl h2.1 h2.2) in_zero in_zero (fun h => by cases h) ⟨(fun h => by cases h), (fun h => by cases h)⟩)
theorem fit_cset {rd c : Int} (h1 : 0 ≤ rd ∧ rd ≤ 31) (h2 : 0 ≤ c ∧ c ≤ 13) : fitS ⟨17, rd, 0, 0, 0, c⟩ :=
  fit_of (k := 17) rfl (by decide) (by decide) (fits_of (in_reg rfl h1.1 h1.2) in_zero in_zero in_zero (in_reg rfl h2.1 h2.2) (fun h => by cases h) ⟨(fun h => by cases h), (fun h => by cases h)⟩)
theorem fit_lsli {rd rn : Int} (h1 : 0 ≤ rd ∧ rd ≤ 31) (h2 : 0 ≤ rn ∧ rn ≤ 31) : fitS ⟨14, rd, rn, 0, 3, 0⟩ :=
  fit_of (k := 14) rfl (by decide) (by decide) (fits_of (in_reg rfl h1.1 h1.2) (in_reg rfl h2.1 h2.2) in_zero (in_reg rfl (show (0 : Int) ≤ 3 by decide) (show (3 : Int) ≤ 63 by decide)) in_zero (fun _ => show (1 : Int) ≤ 3 by decide) ⟨(fun h => by cases h), (fun h => by cases h)⟩)

theorem movk_fit {r x c : Int} (h0 : 0 ≤ r ∧ r ≤ 31) (h1 : 0 ≤ x ∧ x ≤ 65535) (h2 : 0 ≤ c ∧ c ≤ 3) : ∀ i ∈ movk r x c, fitS i := fun i hi => by
  unfold movk at hi
  split at hi
  · cases hi
  · rcases List.mem_singleton.1 hi with rfl
    exact fit_mov (.inr rfl) h0 h1 h2
theorem numL_fit {r v : Int} (h0 : 0 ≤ r ∧ r ≤ 31) : ∀ i ∈ numL r v, fitS i := fun i hi => by
  unfold numL at hi
  rcases List.mem_cons.1 hi with rfl | hi
  · exact fit_mov (.inl rfl) h0 (by omega) (by omega)
  · rcases List.mem_append.1 hi with hi | hi
    · exact movk_fit h0 (by omega) (by omega) i hi
    · rcases List.mem_append.1 hi with hi | hi
      · exact movk_fit h0 (by omega) (by omega) i hi
      · exact movk_fit h0 (by omega) (by omega) i hi
theorem unL_fit {op t : Int} (ho : 3 ≤ op ∧ op ≤ 5) (h : 24 ≤ t ∧ t ≤ 28) : ∀ i ∈ unL op t, fitS i := fun i hi => by
  unfold unL at hi
  split at hi
  · rcases List.mem_singleton.1 hi with rfl
    exact fit_reg (by omega) (by omega) (by omega) (by omega)
  · split at hi
    · rcases List.mem_singleton.1 hi with rfl
      exact fit_reg (by omega) (by omega) (by omega) (by omega)
    · rcases List.mem_cons.1 hi with rfl | hi
      · exact fit_cmp (by omega) (by omega)
      · rcases List.mem_singleton.1 hi with rfl
        exact fit_cset (by omega) (by omega)
theorem binL_fit {op t : Int} (ho : 6 ≤ op ∧ op ≤ 19) (h : 24 ≤ t ∧ t ≤ 27) : ∀ i ∈ binL op t, fitS i := fun i hi => by
  have hb : binOp op = 0 ∨ (3 ≤ binOp op ∧ binOp op ≤ 11) := by
    unfold binOp
    repeat' split
    all_goals omega
  have hc : 0 ≤ binCond op ∧ binCond op ≤ 13 := by
    unfold binCond
    repeat' split
    all_goals omega
  unfold binL at hi
  split at hi
  · rcases List.mem_cons.1 hi with rfl | hi
    · exact fit_cmp (by omega) (by omega)
    · rcases List.mem_singleton.1 hi with rfl
      exact fit_cset (by omega) hc
  · rename_i hz
    rcases List.mem_singleton.1 hi with rfl
    exact fit_reg (hb.resolve_left hz) (by omega) (by omega) (by omega)
theorem lay_fit : ∀ (x : E) (t : Int), tameE x → 24 ≤ t → t + x.needs ≤ 29 → ∀ i ∈ lay x t, fitS i
  | .num v, t, hf, h0, h1, i, hi => by
    simp only [E.needs] at h1
    exact numL_fit (by omega) i hi
  | .loc v, t, hf, h0, h1, i, hi => by
    simp only [E.needs] at h1
    have hv : 0 ≤ v ∧ v < 24 := hf
    rcases List.mem_singleton.1 hi with rfl
    exact fit_reg (by omega) (by omega) (by omega) (by omega)
  | .un op x, t, hf, h0, h1, i, hi => by
    have hp := x.needs_pos
    simp only [E.needs] at h1
    rcases List.mem_append.1 hi with hi | hi
    · exact lay_fit x t hf.2 h0 h1 i hi
    · exact unL_fit hf.1 (by omega) i hi
  | .bin op x y, t, hf, h0, h1, i, hi => by
    have hp := x.needs_pos
    have hq := y.needs_pos
    simp only [E.needs] at h1
    rcases List.mem_append.1 hi with hi | hi
    · exact lay_fit x t hf.2.1 h0 (by omega) i hi
    · rcases List.mem_append.1 hi with hi | hi
      · exact lay_fit y (t + 1) hf.2.2 (by omega) (by omega) i hi
      · exact binL_fit hf.1 (by omega) i hi
theorem outL_fit {l : List Nd} {k : Int} (hl : lenOk l) (ho : okX l k) : ∀ i ∈ outL l k, fitS i := by
  have hpos := hl.1.1
  obtain ⟨hE, h0, h1⟩ := ho
  exact lay_fit _ _ (tr_tame hE.1 hl.2 _ _ (Nat.lt_succ_self _) (by omega)) (by omega) (by omega)
theorem addrL_fit {b s k : Int} {l : List Nd} (hl : lenOk l) (ho : aOk b s l k) : ∀ i ∈ addrL b s l k, fitS i := fun i hi => by
  have hpos := hl.1.1
  obtain ⟨⟨⟨hq, hb0, hb1⟩, hk, hE⟩, hn⟩ := ho
  have h3 := need2_pos l
  unfold addrL at hi
  rcases List.mem_append.1 hi with hi | hi
  · exact lay_fit _ _ (tr_tame hE.1 hl.2 _ _ (Nat.lt_succ_self _) (by omega)) (by omega) (by omega) i hi
  · rcases List.mem_append.1 hi with hi | hi
    · exact numL_fit (by omega) i hi
    · rcases List.mem_cons.1 hi with rfl | hi
      · exact fit_reg (by omega) (by omega) (by omega) (by omega)
      · rcases List.mem_cons.1 hi with rfl | hi
        · exact fit_lsli (by omega) (by omega)
        · rcases List.mem_append.1 hi with hi | hi
          · exact numL_fit (by omega) i hi
          · rcases List.mem_singleton.1 hi with rfl
            exact fit_reg (by omega) (by omega) (by omega) (by omega)

end Go.Proofs.Ytgaejhhipnpopaa
