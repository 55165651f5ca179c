/-
  The laws' own helpers: awake, is.
-/
import Derived.Test.YtjcebkkmpgafkaaDecode
namespace Go.Proofs.Ytjcebkkmpgafkaa
open Go Go.RowKit Ev

def encV (i : I) : Value := if fitsI i then .tuple #[.int .u32 (laidV (rowAt i.op) i), .int .i64 0] else .tuple #[.int .u32 0, .int .i64 7]

theorem enc_call (i : I) (h : i.fit) (W : World) : Calls Try.prog 20 #[.agg i.cells] W fun e W' => e = .returned (encV i) ∧ Below W.heap.size W W' := by
  obtain ⟨n, hn⟩ := encode_gives i h
  exact (hn W).mono fun _ _ h => ⟨h.1, h.2.1⟩
theorem fits_call (i : I) (W : World) : Calls Try.prog 22 #[.agg i.cells] W fun e W' => e = .returned (.bool (fitsI i)) ∧ Below W.heap.size W W' := by
  obtain ⟨n, hn⟩ := cfits_gives i
  exact (hn W).mono fun _ _ h => ⟨h.1, h.2.1⟩

theorem bcellA {W w1 : World} {B : Nat} (hb : Below B W w1) : (∀ b o, b < B → w1.cell? ⟨b, o, none⟩ = W.cell? ⟨b, o, none⟩) ∧ (∀ b o, b < B → w1.frozen? ⟨b, o, none⟩ = W.frozen? ⟨b, o, none⟩) :=
  ⟨fun b o h => hb.cell (p := ⟨b, o, none⟩) h, fun b o h => hb.frozen (p := ⟨b, o, none⟩) h⟩

theorem below_chain {W W1 W2 : World} {B : Nat} (h1 : Below B W W1) (h2 : Below W1.heap.size W1 W2) (hB : B ≤ W1.heap.size) : Below B W W2 := h1.trans (h2.mono hB)

set_option maxHeartbeats 1000000 in
theorem awake_any (w : World) : Calls Try.prog 14 #[] w fun e w' => e = .returned (.bool true) ∧ Below w.heap.size w w' := by
  have c1 : ∀ W, Calls Try.prog 20 #[.agg #[.int .i64 1, .int .i64 1, .int .i64 0, .int .i64 0, .int .i64 5, .int .i64 0]] W fun e W' => e = .returned (.tuple #[.int .u32 3531604129, .int .i64 0]) ∧ Below W.heap.size W W' := by
    intro W
    have e : encV ⟨1, 1, 0, 0, 5, 0⟩ = .tuple #[.int .u32 3531604129, .int .i64 0] := by kernel_rfl
    rw [← e]
    exact enc_call ⟨1, 1, 0, 0, 5, 0⟩ ⟨by decide, by decide, by decide, by decide, by decide⟩ W
  have c2 : ∀ W, Calls Try.prog 16 #[.int .u32 3531604129] W fun e W' => e = .returned (.tuple #[.agg #[.int .i64 1, .int .i64 1, .int .i64 0, .int .i64 0, .int .i64 5, .int .i64 0], .int .i64 0]) ∧ Below W.heap.size W W' := by
    intro W
    have e : cdecV 3531604129 = .tuple #[.agg #[.int .i64 1, .int .i64 1, .int .i64 0, .int .i64 0, .int .i64 5, .int .i64 0], .int .i64 0] := by kernel_rfl
    rw [← e]
    exact cdec_any 3531604129 (by decide) W
  have c3 : ∀ W, Calls Try.prog 22 #[.agg #[.int .i64 0, .int .i64 0, .int .i64 0, .int .i64 0, .int .i64 0, .int .i64 0]] W fun e W' => e = .returned (.bool false) ∧ Below W.heap.size W W' := fun W => fits_call ⟨0, 0, 0, 0, 0, 0⟩ W
  have C1 := Lib.hid c1
  have C2 := Lib.hid c2
  have C3 := Lib.hid c3
  clear c1 c2 c3
  go_enter Try.func14, Try.ntmps14
  go_wp2_with fail
  refine (C1.out _).mono ?_
  rintro e w1 ⟨rfl, hb1⟩
  go_wp2_with fail
  refine (C2.out _).mono ?_
  rintro e w2 ⟨rfl, hb2⟩
  have s1 := hb1.size
  have s2 := hb2.size
  have B2 := Lib.hid (below_chain hb1 hb2 s1)
  clear hb1 hb2
  go_wp2_with fail
  refine (C3.out _).mono ?_
  rintro e w3 ⟨rfl, hb3⟩
  have s3 := hb3.size
  simp only [World.size_alloc] at s3
  have B3 := Lib.hid (below_chain (B2.out.alloc (by omega) _) hb3 (by simp; omega))
  clear hb3
  go_wp2_with fail
  go_returns
  exact ⟨rfl, B3.out⟩

/-- An instruction that has no word. -/
theorem is_none (i : I) (h : i.fit) (hf : fitsI i = false) (w : World) : Calls Try.prog 15 #[.agg i.cells, .int .u32 0] w fun e w' => e = .returned (.bool true) ∧ Below w.heap.size w w' := by
  have c1 := enc_call i h
  have c2 := fits_call i
  unfold encV at c1
  rw [hf] at c1 c2
  obtain ⟨op, rd, rn, rm, imm, cond⟩ := i
  simp only [I.cells, Bool.false_eq_true, if_false] at *
  have C1 := Lib.hid c1
  have C2 := Lib.hid c2
  clear c1 c2 hf h
  go_enter Try.func15, Try.ntmps15
  go_wp2_with fail
  refine (C1.out _).mono ?_
  rintro e w1 ⟨rfl, hb1⟩
  have s1 := hb1.size
  simp only [World.size_alloc] at s1
  obtain ⟨hc1, hf1⟩ := bcellA hb1
  have B1 := Lib.hid (below_chain ((Below.refl _ _).alloc (Nat.le_refl _) _) hb1 (by simp))
  clear hb1
  go_wp2_with fail
  refine (C2.out _).mono ?_
  rintro e w2 ⟨rfl, hb2⟩
  have s2 := hb2.size
  have B2 := Lib.hid (below_chain B1.out hb2 (by omega))
  clear hb2
  go_wp2_with fail
  go_returns
  exact ⟨rfl, B2.out⟩

/-- An instruction and its word. -/
theorem is_word (i : I) (x : Nat) (h : i.fit) (hx : x < 4294967296) (h0 : 1 ≤ x) (he : encV i = .tuple #[.int .u32 x, .int .i64 0]) (hd : cdecV x = .tuple #[.agg i.cells, .int .i64 0]) (hf : fitsI i = true) (w : World) : Calls Try.prog 15 #[.agg i.cells, .int .u32 x] w fun e w' => e = .returned (.bool true) ∧ Below w.heap.size w w' := by
  have c1 := enc_call i h
  have c2 := fits_call i
  have c3 := cdec_any x hx
  rw [he] at c1
  rw [hd] at c3
  rw [hf] at c2
  have t0 : ((x : Int) == 0) = false := by simp; omega
  obtain ⟨op, rd, rn, rm, imm, cond⟩ := i
  simp only [I.cells] at *
  have C1 := Lib.hid c1
  have C2 := Lib.hid c2
  have C3 := Lib.hid c3
  clear c1 c2 c3 hf h he hd
  go_enter Try.func15, Try.ntmps15
  go_wp2_with fail
  refine (C1.out _).mono ?_
  rintro e w1 ⟨rfl, hb1⟩
  have s1 := hb1.size
  simp only [World.size_alloc] at s1
  obtain ⟨hc1, hf1⟩ := bcellA hb1
  have B1 := Lib.hid (below_chain ((Below.refl _ _).alloc (Nat.le_refl _) _) hb1 (by simp))
  have D1 : Hid (Below (w.heap.size + 1) (w.alloc (.cells #[.int .i64 op, .int .i64 rd, .int .i64 rn, .int .i64 rm, .int .i64 imm, .int .i64 cond] 25)) w1) := by show Below _ _ _; simpa using hb1
  clear hb1
  go_wp2_with fail
  refine (C3.out _).mono ?_
  rintro e w2 ⟨rfl, hb2⟩
  have s2 := hb2.size
  have D2 : Hid (Below (w.heap.size + 1) (w.alloc (.cells #[.int .i64 op, .int .i64 rd, .int .i64 rn, .int .i64 rm, .int .i64 imm, .int .i64 cond] 25)) w2) := below_chain D1.out hb2 s1
  obtain ⟨z0, z1, z2, z3, z4, z5, -⟩ := six_at D2.out
  have hlt : w.heap.size < w2.heap.size := by omega
  clear hc1 hf1
  have B2 := Lib.hid (below_chain B1.out hb2 (by omega))
  clear hb2
  go_wp2_with fail
  refine (C2.out _).mono ?_
  rintro e w3 ⟨rfl, hb3⟩
  have s3 := hb3.size
  simp only [World.size_alloc] at s3
  have B3 := Lib.hid (below_chain (B2.out.alloc (by omega) _) hb3 (by simp; omega))
  clear hb3
  go_wp2_with fail
  go_returns
  exact ⟨rfl, B3.out⟩

end Go.Proofs.Ytjcebkkmpgafkaa
