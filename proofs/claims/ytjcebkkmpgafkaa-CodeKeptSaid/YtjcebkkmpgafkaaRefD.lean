/-
  The reference's Decode.
-/
import Derived.Test.YtjcebkkmpgafkaaRefAs
import Derived.Test.YtjcebkkmpgafkaaRefW
namespace Go.Proofs.Ytjcebkkmpgafkaa
open Go Go.RowKit Ev

/-- The instruction that the word w would be, of the operation k: as the reference reads it. -/
def asR (k w : Nat) : I := asK k w (immR k w) (condR k w)

theorem asR_fit (k w : Nat) : (asR k w).fit := by
  have h1 := rv_lt k 100 w
  have h2 := rv_lt k 110 w
  have h3 := rv_lt k 109 w
  have h4 := rv_lt k 105 w
  have h5 := rv_lt k 99 w
  have h6 := rv_lt k 107 w
  have w1 := fun x : Int => wrap_within .i64 x
  refine ⟨?_, ?_, ?_, ?_, ?_⟩
  · show _ ≤ (rv k 100 w : Int) ∧ (rv k 100 w : Int) ≤ _; omega
  · show _ ≤ (rv k 110 w : Int) ∧ (rv k 110 w : Int) ≤ _; omega
  · show _ ≤ (rv k 109 w : Int) ∧ (rv k 109 w : Int) ≤ _; omega
  · show _ ≤ immR k w ∧ immR k w ≤ _
    unfold immR
    (repeat' split) <;> first | exact w1 _ | omega
  · show _ ≤ condR k w ∧ condR k w ≤ _
    unfold condR
    split <;> first | exact w1 _ | omega

/-- Is it that operation's word, by the reference? -/
def hitR (k w : Nat) : Bool := rfitsB (asR k w) && (wdT (asR k w) (patL k) 32 == w)

/-- The first operation whose word it is. -/
def decR (w : Nat) : Option Nat := (List.range 48).find? fun k => decide (1 ≤ k) && hitR k w

def zeroCells : Array Value := #[.int .i64 0, .int .i64 0, .int .i64 0, .int .i64 0, .int .i64 0, .int .i64 0]

def decV (w : Nat) : Value :=
  match decR w with
  | some k => .tuple #[.agg (asR k w).cells, .bool true]
  | none => .tuple #[.agg zeroCells, .bool false]

theorem find_first (p : Nat → Bool) : ∀ (n k : Nat), k < n → p k = true → (∀ j, j < k → p j = false) → (List.range n).find? p = some k := by
  intro n k hk hp hno
  rw [List.find?_eq_some_iff_getElem]
  refine ⟨hp, k, by simpa using hk, by simp, fun j hj => ?_⟩
  simp [hno j hj]

theorem decR_hit (w k : Nat) (h1 : 1 ≤ k) (h2 : k < 48) (hh : hitR k w = true) (hno : ∀ j, 1 ≤ j → j < k → hitR j w = false) : decR w = some k := by
  refine find_first _ 48 k h2 (by simp [h1, hh]) fun j hj => ?_
  by_cases hj1 : 1 ≤ j
  · simp [hno j hj1 hj]
  · simp [hj1]

theorem decR_none (w : Nat) (hno : ∀ j, 1 ≤ j → j < 48 → hitR j w = false) : decR w = none := by
  unfold decR
  rw [List.find?_eq_none]
  intro j hj
  simp only [List.mem_range] at hj
  by_cases hj1 : 1 ≤ j
  · simp [hno j hj1 hj]
  · simp [hj1]

theorem as_call (w : Nat) (h : w < 4294967296) (k : Nat) (h1 : 1 ≤ k) (h2 : k < 48) (W : World) : Calls Try.prog 39 #[.int .i64 (k : Nat), .int .u32 w] W fun e w' => e = .returned (.agg (asR k w).cells) ∧ Below W.heap.size W w' :=
  (as_gives w h k h1 h2 W).mono fun _ _ h => ⟨h.1, h.2.1⟩
theorem rfits_call (i : I) (h : i.fit) (W : World) : Calls Try.prog 23 #[.agg i.cells] W fun e w' => e = .returned (.bool (rfitsB i)) ∧ Below W.heap.size W w' := by
  obtain ⟨n, hn⟩ := rfits_gives i h
  exact (hn W).mono fun _ _ h => ⟨h.1, h.2.1⟩

theorem bcells {W w1 : World} {B : Nat} (hb : Below B W w1) : (∀ b o, b < B → w1.cell? ⟨b, o, none⟩ = W.cell? ⟨b, o, none⟩) ∧ (∀ b o, b < B → w1.frozen? ⟨b, o, none⟩ = W.frozen? ⟨b, o, none⟩) := bcell hb

theorem six_cells {W W' : World} {c0 c1 c2 c3 c4 c5 : Value} {t : TypeId} (h : Below (W.heap.size + 1) (W.alloc (.cells #[c0, c1, c2, c3, c4, c5] t)) W') :
    W'.cell? ⟨W.heap.size, 0, none⟩ = some c0 ∧ W'.cell? ⟨W.heap.size, 1, none⟩ = some c1 ∧ W'.cell? ⟨W.heap.size, 2, none⟩ = some c2 ∧ W'.cell? ⟨W.heap.size, 3, none⟩ = some c3 ∧ W'.cell? ⟨W.heap.size, 4, none⟩ = some c4 ∧ W'.cell? ⟨W.heap.size, 5, none⟩ = some c5 ∧
    (W'.frozen? ⟨W.heap.size, 0, none⟩ = false ∧ W'.frozen? ⟨W.heap.size, 1, none⟩ = false ∧ W'.frozen? ⟨W.heap.size, 2, none⟩ = false ∧ W'.frozen? ⟨W.heap.size, 3, none⟩ = false ∧ W'.frozen? ⟨W.heap.size, 4, none⟩ = false ∧ W'.frozen? ⟨W.heap.size, 5, none⟩ = false) := by
  have hc := fun o => (bcell h).1 W.heap.size o (by omega)
  have hf := fun o => (bcell h).2 W.heap.size o (by omega)
  simp only [hc, hf]
  simp [go_sem]

theorem decV_hit (w k : Nat) (h1 : 1 ≤ k) (h2 : k < 48) (hno : ∀ j, 1 ≤ j → j < k → hitR j w = false) (hh : hitR k w = true) : decV w = .tuple #[.agg (asR k w).cells, .bool true] := by
  unfold decV; rw [decR_hit w k h1 h2 hh hno]
theorem decV_none (w : Nat) (hno : ∀ j, 1 ≤ j → j < 48 → hitR j w = false) : decV w = .tuple #[.agg zeroCells, .bool false] := by
  unfold decV; rw [decR_none w hno]

set_option maxHeartbeats 2000000 in
theorem rdec_any (x : Nat) (hx : x < 4294967296) (w : World) :
    Calls Try.prog 25 #[.int .u32 x] w fun e w' => e = .returned (decV x) ∧ Below w.heap.size w w' := by
  have HHIT := Lib.hid (decV_hit x)
  have HNONE := Lib.hid (decV_none x)
  generalize decV x = V at *
  go_enter Try.func25, Try.ntmps25
  go_wp2_with fail
  go_loopw [4] (fun i wr => ∃ k : Nat, 1 ≤ k ∧ k ≤ 48 ∧ i = .int .i64 (k : Int) ∧ Hid (∀ j, 1 ≤ j → j < k → hitR j x = false) ∧ Hid (Below (w.heap.size + 1) (w.alloc (.cells zeroCells 34)) wr)) (fun i _ => 48 - (intOf i).toNat)
  case atStart => exact ⟨1, Nat.le_refl _, by omega, by go_num, fun j h1 h2 => by omega, Below.refl _ _⟩
  case round =>
    obtain ⟨k, hk1, hk2, rfl, hno, hB⟩ := hrel
    obtain ⟨hc, hf⟩ := bcells hB.out
    have hsize : w.heap.size + 1 ≤ wr.heap.size := by have := hB.out.size; simpa using this
    by_cases hk : k < 48
    · have c1 := as_call x hx k hk1 hk
      have c2 := rfits_call (asR k x) (asR_fit k x)
      have c3 := word_any (asR k x) k rfl hk1 hk
      have hdef : hitR k x = (rfitsB (asR k x) && (wdT (asR k x) (patL k) 32 == x)) := rfl
      have hh := HHIT.out k hk1 hk hno.out
      have hwl := wdT_lt (asR k x) (patL k) 32
      generalize rfitsB (asR k x) = fb at *
      generalize wdT (asR k x) (patL k) 32 = wd at *
      generalize asR k x = a at *
      obtain ⟨op, rd, rn, rm, imm, cond⟩ := a
      simp only [I.cells] at *
      have C1 := Lib.hid c1
      have C2 := Lib.hid c2
      have C3 := Lib.hid c3
      have HD := Lib.hid hdef
      have HH := Lib.hid hh
      clear c1 c2 c3 hdef hh
      have next : hitR k x = false → Hid (∀ j, 1 ≤ j → j < k + 1 → hitR j x = false) := fun h j h1 h2 => by
        rcases Nat.lt_succ_iff_lt_or_eq.1 h2 with h3 | rfl
        · exact hno.out j h1 h3
        · exact h
      have NX := Lib.hid next
      clear next
      go_wp2_with fail
      refine (C1.out _).mono ?_
      rintro e w2 ⟨rfl, hb2⟩
      obtain ⟨hc2, hf2⟩ := bcells hb2
      have hs2 := hb2.size
      have HB2 := Lib.hid hb2
      clear hb2
      go_wp2_with fail
      refine (C2.out _).mono ?_
      rintro e w3 ⟨rfl, hb3⟩
      obtain ⟨hc3, hf3⟩ := bcells hb3
      have hs3 := hb3.size
      simp only [World.size_alloc] at hs3
      have HB3 := Lib.hid hb3
      clear hb3
      have hB3 : Hid (Below (w.heap.size + 1) (w.alloc (.cells zeroCells 34)) w3) := by
        refine Below.trans (Below.trans hB.out (Below.mono HB2.out hsize)) ?_
        exact Below.trans (Below.alloc (Below.refl _ _) (by omega) _) (Below.mono HB3.out (by simp; omega))
      cases fb
      · go_wp2_with fail
        go_roundw
        case rel => exact ⟨k + 1, by omega, by omega, by go_num, NX.out (by rw [HD.out]; rfl), hB3⟩
        case measure => simp [intOf]; omega
      · go_wp2_with fail
        refine (C3.out _).mono ?_
        rintro e w4 ⟨rfl, hb4⟩
        obtain ⟨hc4, hf4⟩ := bcells hb4
        have hs4 := hb4.size
        have HB4 := Lib.hid hb4
        clear hb4
        have hB4 : Hid (Below (w.heap.size + 1) (w.alloc (.cells zeroCells 34)) w4) := Below.trans hB3.out (Below.mono HB4.out (by omega))
        by_cases hw : wd = x
        · have t1 : ((wd : Int) == (x : Int)) = true := by rw [hw]; simp
          have hit : hitR k x = true := by rw [HD.out, hw]; simp
          have HVV := Lib.hid (HH.out hit)
          obtain ⟨z0, z1, z2, z3, z4, z5, y0, y1, y2, y3, y4, y5⟩ := six_cells hB4.out
          have hbox : Below (w2.heap.size + 1) (w2.alloc (.cells #[.int .i64 op, .int .i64 rd, .int .i64 rn, .int .i64 rm, .int .i64 imm, .int .i64 cond] 34)) w4 := Below.trans (by have := HB3.out; simpa using this) (Below.mono HB4.out (by omega))
          obtain ⟨x0, x1, x2, x3, x4, x5, -⟩ := six_cells hbox
          have hb0 : Hid (Below w.heap.size w w4) := ((Below.refl _ _).alloc (Nat.le_refl _) _).trans (Below.mono hB4.out (by omega))
          clear hw hit hc hf hc2 hf2 hc3 hf3 hc4 hf4 hbox
          go_wp2_with fail
          have hb1 := hb0.out
          refine bodyPost_ret (v := .tuple #[.agg #[.int .i64 op, .int .i64 rd, .int .i64 rn, .int .i64 rm, .int .i64 imm, .int .i64 cond], .bool true]) (by simp [results, Try.results25, go_sem, z0, z1, z2, z3, z4, z5]) rfl ⟨by rw [HVV.out], ?_⟩
          clear z0 z1 z2 z3 z4 z5 y0 y1 y2 y3 y4 y5 x0 x1 x2 x3 x4 x5
          go_grown
        · have t1 : ((wd : Int) == (x : Int)) = false := beq_eq_false_iff_ne.2 (by omega)
          have hit : hitR k x = false := by rw [HD.out]; simp [hw]
          have HIT := Lib.hid (NX.out hit)
          clear hw hit
          go_wp2_with fail
          go_roundw
          case rel => exact ⟨k + 1, by omega, by omega, by go_num, HIT.out, hB4⟩
          case measure => simp [intOf]; omega
    · have : k = 48 := by omega
      subst this
      have hv := HNONE.out (fun j h1 h2 => hno.out j h1 h2)
      have HVV := Lib.hid hv
      clear hv
      obtain ⟨z0, z1, z2, z3, z4, z5, y0, y1, y2, y3, y4, y5⟩ := six_cells hB.out
      have hb0 : Hid (Below w.heap.size w wr) := ((Below.refl _ _).alloc (Nat.le_refl _) _).trans (Below.mono hB.out (by omega))
      clear hc hf
      go_wp2_with fail
      have hb1 := hb0.out
      refine bodyPost_ret (v := .tuple #[.agg zeroCells, .bool false]) (by simp [results, Try.results25, go_sem, z0, z1, z2, z3, z4, z5, zeroCells]) rfl ⟨by rw [HVV.out], ?_⟩
      clear z0 z1 z2 z3 z4 z5 y0 y1 y2 y3 y4 y5
      go_grown

end Go.Proofs.Ytjcebkkmpgafkaa
