/-
  Decode of any word.
-/
import Derived.Test.YtgaejhhipnpopaaCdA
import Derived.Test.YtgaejhhipnpopaaEvL
namespace Go.Proofs.Ytgaejhhipnpopaa.Cd
open Go Go.RowKit Ev
set_option linter.unusedVariables false
set_option linter.unusedSimpArgs false

/-- What row.read tells of the word w, of the operation k. -/
def asC (k w : Nat) : I := asE (rowOf k) k w (if k = 14 then immL w else readN (rowOf k).f3 w)
/-- Is it that operation's word? -/
def hitC (k w : Nat) : Bool := fitsB (rowOf k) (asC k w) && (laidV (rowOf k) (asC k w) == w)
/-- The words without fields. -/
def fixedTab : List (Nat × Nat) := [(30, 3573759423), (31, 3573759935), (32, 3573751839), (34, 3560964096)]
def decC (w : Nat) : Option I :=
  match fixedTab.find? (fun p => p.2 == w) with
  | some p => some ⟨p.1, 0, 0, 0, 0, 0⟩
  | none => ((List.range 48).find? fun k => decide (1 ≤ k) && hitC k w).map fun k => asC k w
def cdecV (w : Nat) : Value :=
  match decC w with
  | some i => .tuple #[.agg i.cells, .int .i64 0]
  | none => .tuple #[.agg (I.cells ⟨0, 0, 0, 0, 0, 0⟩), .int .i64 7]
def zeroI : I := ⟨0, 0, 0, 0, 0, 0⟩
theorem asE_cells (k w : Nat) : (asC k w).cells = (asE (rowOf k) k w (if k = 14 then immL w else readN (rowOf k).f3 w)).cells := rfl
theorem read_gives (k w : Nat) (h : w < 4294967296) (hk : k < 48) : Gives Try.prog 44 #[.agg (rowOf k).cells, .int .i64 k, .int .u32 w] (.agg (asC k w).cells) 13 := by
  rw [asE_cells]
  by_cases o : k = 14
  · rw [if_pos o]; exact read_lsli (rowOf k) k w (row_nice k hk) h (by omega)
  · rw [if_neg o]; exact read_other (rowOf k) k w (row_nice k hk) h (by omega)
def readRC (k w : Nat) : CallC := ⟨44, #[.agg (rowOf k).cells, .int .i64 k, .int .u32 w], .agg (asC k w).cells, 13⟩
def four : List FuncId := [40, 44, 41, 42]
theorem cdecV_hit (x k : Nat) (hnf : fixedTab.find? (fun p => p.2 == x) = none) (h1 : 1 ≤ k) (h2 : k < 48) (hh : hitC k x = true) (hno : ∀ j, 1 ≤ j → j < k → hitC j x = false) : cdecV x = .tuple #[.agg (asC k x).cells, .int .i64 0] := by
  have : (List.range 48).find? (fun k => decide (1 ≤ k) && hitC k x) = some k := by
    rw [List.find?_eq_some_iff_getElem]
    refine ⟨by simp [h1, hh], k, by simpa using h2, by simp, fun j hj => ?_⟩
    by_cases hj1 : 1 ≤ j
    · simp [hno j hj1 hj]
    · simp [hj1]
  unfold cdecV decC
  rw [hnf, this]
  rfl
theorem cdecV_none (x : Nat) (hnf : fixedTab.find? (fun p => p.2 == x) = none) (hno : ∀ j, 1 ≤ j → j < 48 → hitC j x = false) : cdecV x = .tuple #[.agg zeroI.cells, .int .i64 7] := by
  have : (List.range 48).find? (fun k => decide (1 ≤ k) && hitC k x) = none := by
    rw [List.find?_eq_none]
    intro j hj
    simp only [List.mem_range] at hj
    by_cases hj1 : 1 ≤ j
    · simp [hno j hj1 hj]
    · simp [hj1]
  unfold cdecV decC
  rw [hnf, this]
  rfl
theorem hno_step {x k : Nat} (hno : ∀ j, 1 ≤ j → j < k → hitC j x = false) (h : hitC k x = false) : ∀ j, 1 ≤ j → j < k + 1 → hitC j x = false := fun j h1 h2 => by
  rcases Nat.lt_succ_iff_lt_or_eq.1 h2 with h3 | rfl
  · exact hno j h1 h3
  · exact h
theorem own_new (w : World) (o : Obj) : Own w [(w.heap.size, o)] (w.alloc o) := by
  refine ⟨(Below.refl _ _).alloc (Nat.le_refl _) _, ?_, by simp⟩
  intro p hp
  simp only [List.mem_cons, List.not_mem_nil, or_false] at hp
  subst hp
  refine ⟨Nat.le_refl _, ?_⟩
  show (w.heap.push _)[w.heap.size]? = _
  simp
theorem inB_range (f : Fld) (v : Int) (hg : f.good = true) (h : inB f v = true) : -9223372036854775808 ≤ v ∧ v ≤ 9223372036854775807 := by
  simp only [Fld.good, Bool.and_eq_true, decide_eq_true_eq] at hg
  obtain ⟨⟨⟨⟨⟨⟨⟨_, h1⟩, h2⟩, h3⟩, h4⟩, _⟩, _⟩, _⟩ := hg
  unfold inB at h
  split at h
  · have : v = 0 := by simpa using h
    omega
  · simp only [Bool.and_eq_true, decide_eq_true_eq] at h
    omega
theorem fits_fit (r : Row) (i : I) (g : r.Good) (h : fitsB r i = true) : i.fit := by
  simp only [fitsB, Bool.and_eq_true] at h
  obtain ⟨h0, h1, h2, h3, h4, _⟩ := h
  exact ⟨inB_range _ _ g.g0 h0, inB_range _ _ g.g1 h1, inB_range _ _ g.g2 h2, inB_range _ _ g.g3 h3, inB_range _ _ g.g4 h4⟩
theorem asC_fit (k x : Nat) (hk : k < 48) (h : fitsB (rowOf k) (asC k x) = true) : (asC k x).fit := fits_fit _ _ (row_nice k hk).toGood h
theorem wrap_succ (k : Nat) (hk : k < 48) : IntKind.i64.wrap ((k : Int) + 1) = ((k + 1 : Nat) : Int) := by
  rw [IntWalk.i64_in _ (by omega)]; rfl
theorem law3 : Maps.Keyed Try.prog 3 := Maps.int_keyed Try.underlying3
theorem cdecV_fixed (x k c : Nat) (h : (k, c) ∈ fixedTab) (hc : c = x) : cdecV x = .tuple #[.agg (I.cells ⟨k, 0, 0, 0, 0, 0⟩), .int .i64 0] := by
  subst hc
  simp only [fixedTab, List.mem_cons, List.not_mem_nil, or_false, Prod.mk.injEq] at h
  rcases h with ⟨rfl, rfl⟩ | ⟨rfl, rfl⟩ | ⟨rfl, rfl⟩ | ⟨rfl, rfl⟩ <;> rfl
theorem own_of_below {w wr : World} (h : Below (w.heap.size + 1) (w.alloc (.cells zeroI.cells 29)) wr) : Own w [(w.heap.size, .cells zeroI.cells 29)] wr := by
  refine ⟨((Below.refl _ _).alloc (Nat.le_refl _) _).trans (h.mono (by omega)), ?_, by simp⟩
  intro p hp
  simp only [List.mem_cons, List.not_mem_nil, or_false] at hp
  subst hp
  refine ⟨Nat.le_refl _, ?_⟩
  rw [h.block _ (by simp)]
  show (w.heap.push _)[w.heap.size]? = _
  simp
theorem find_none_of {x : Nat} (h : ∀ p ∈ fixedTab, p.2 ≠ x) : fixedTab.find? (fun p => p.2 == x) = none := by
  rw [List.find?_eq_none]
  intro p hp
  simpa using h p hp
theorem six_at {W W' : World} {c0 c1 c2 c3 c4 c5 : Value} {t : TypeId} (h : Below (W.heap.size + 1) (W.alloc (.cells #[c0, c1, c2, c3, c4, c5] t)) W') :
    W'.cell? ⟨W.heap.size, 0, none⟩ = some c0 ∧ W'.cell? ⟨W.heap.size, 1, none⟩ = some c1 ∧ W'.cell? ⟨W.heap.size, 2, none⟩ = some c2 ∧ W'.cell? ⟨W.heap.size, 3, none⟩ = some c3 ∧ W'.cell? ⟨W.heap.size, 4, none⟩ = some c4 ∧ W'.cell? ⟨W.heap.size, 5, none⟩ = some c5 ∧
    (W'.frozen? ⟨W.heap.size, 0, none⟩ = false ∧ W'.frozen? ⟨W.heap.size, 1, none⟩ = false ∧ W'.frozen? ⟨W.heap.size, 2, none⟩ = false ∧ W'.frozen? ⟨W.heap.size, 3, none⟩ = false ∧ W'.frozen? ⟨W.heap.size, 4, none⟩ = false ∧ W'.frozen? ⟨W.heap.size, 5, none⟩ = false) := by
  have hc := fun o => h.cell (p := ⟨W.heap.size, o, none⟩) (by show W.heap.size < _; omega)
  have hf := fun o => h.frozen (p := ⟨W.heap.size, o, none⟩) (by show W.heap.size < _; omega)
  simp only [hc, hf]
  simp [go_sem]
set_option maxHeartbeats 2000000 in
theorem cdec_any (x : Nat) (hx : x < 4294967296) (w : World) :
    Calls Try.prog 27 #[.int .u32 x] w fun e w' => e = .returned (cdecV x) ∧ Below w.heap.size w w' := by
  go_enter Try.func27, Try.ntmps27
  by_cases h1 : x / 16777216 = 213
  · have t1 : (((x : Int) / 16777216) == 213) = true := by simp; omega
    go_wp2_with fail
    refine (fixed_any _).mono ?_
    rintro e w1 ⟨rfl, hb1, hs1, hmap⟩
    have hown0 := fixed_owns (H := Unit) (hmap _ (List.mem_cons_self))
    have hB1 : Hid (Below (w.heap.size + 1) (w.alloc (.cells zeroI.cells 29)) w1) := by
      show Below _ _ _
      simpa [zeroI, I.cells] using hb1
    have hz1 : w.heap.size + 1 < w1.heap.size := by have := hs1; simp at this; omega
    clear hb1 hs1 hmap
    rw [World.size_alloc] at hown0
    go_wp2_with (at_range; refine wpList_range_own _ rfl _ 89 rfl 3 62 law3 Try.underlying89 _ (w.heap.size + 1) 4 _ rfl hown0 ?_; intro w2 hrg0 hg0 hs0)
    go_frame
    have hB2 : Hid (Below (w.heap.size + 1) (w.alloc (.cells zeroI.cells 29)) w2) := Below.trans hB1.out ((Below.refl _ _).grown hg0 (by omega) (fun k hk => by cases hk))
    clear hg0 hs0 hown0
    go_loopw [5] (fun _ wr => ∃ (left : Lit → Bool) (cnt : Nat), wr.ranges Try.prog 3 (plainElem (H := Unit) Try.prog 62) (w.heap.size + 1) w1.heap.size 4 fixedD left cnt ∧ Hid (∀ kl, left kl = true → Maps.has (fixedD (H := Unit)) kl = true) ∧ Hid (∀ p ∈ fixedTab, left (.int .i64 p.1) = true ∨ p.2 ≠ x) ∧ Hid (Below (w.heap.size + 1) (w.alloc (.cells zeroI.cells 29)) wr)) (fun _ wr => wr.rangeLeft (w.heap.size + 1) w1.heap.size)
    case atStart => exact ⟨_, _, hrg0, fun _ h => h, fun p hp => .inl (by revert p; decide), hB2⟩
    case round =>
      obtain ⟨left, cnt, hrg, hhas, htab, hBr⟩ := hrel
      have hlt0 : w.heap.size + 1 ≤ wr.heap.size := by have := hBr.out.size; simpa using this
      go_wp2_with (at_next; refine wpList_next_ranges_ii _ rfl _ rfl 3 62 .i64 .u32 law3 Try.underlying3 Try.underlying62 (w.heap.size + 1) w1.heap.size 4 _ _ _ rfl hrg ?_ ?_)
      · intro _ hl0
        have HNF : Hid (fixedTab.find? (fun p => p.2 == x) = none) := find_none_of fun p hp => (htab.out p hp).resolve_left (by rw [hl0]; decide)
        clear hl0
        go_wp2_with fail
        have hnf := HNF.out
        have hown : Own w [(w.heap.size, .cells zeroI.cells 29)] wr := own_of_below hBr.out
        refine wp_loop (fun a wr => ∃ k : Nat, 1 ≤ k ∧ k ≤ 48 ∧ Known 56 [(0, .int .u32 x), (2, .pointer (some ⟨w.heap.size, 0, none⟩)), (7, .int .i64 k)] a ∧ Own w [(w.heap.size, .cells zeroI.cells 29)] wr ∧ ∀ j, 1 ≤ j → j < k → hitC j x = false)
          (fun a _ => 48 - (intOf (a.tmps.getD 7 undef)).toNat) ?_ ?_
        · exact ⟨1, by omega, by omega, ⟨rfl, rfl, by simp⟩, hown, fun j h1 h2 => by omega⟩
        · rintro a wr ⟨k, hk1, hk2, hK, hO, hno⟩
          by_cases hk : k < 48
          · have hr := rowOf_gives k hk1 hk
            have hre := read_gives k x hx hk
            obtain ⟨m, hf⟩ := fits_gives (rowOf k) (asC k x) (row_nice k hk).toGood
            have hhit : hitC k x = (fitsB (rowOf k) (asC k x) && (laidV (rowOf k) (asC k x) == x)) := rfl
            have hle : ((k : Int) ≤ 47) := by omega
            have hmu : (intOf (a.tmps.getD 7 undef)).toNat = k := by
              have := hK.get (7, .int .i64 k) (by simp)
              simp only at this
              rw [this]; rfl
            cases hb : fitsB (rowOf k) (asC k x)
            · rw [hb] at hf hhit
              refine wp_piece_at (S := withBoth four [rowC k (rowOf k) true (rowBlocks k), readRC k x, fitsC (rowOf k) (asC k x) false m] 27 [32] [.bool true]) (withBoth_holds (gives_cons hr (gives_cons hre (gives_cons hf cl_nil)))) mixed 200 27
                ⟨56, [(0, .int .u32 x), (2, .pointer (some ⟨0, 0, none⟩)), (7, .int .i64 k)]⟩ ⟨[(0, .cells zeroI.cells 29)], 1000, none, [], [], 0, 0⟩ hK hO [0, 2, 7]
                (x := .normal) (m' := 56) (vs := [.int .u32 x, .pointer (some ⟨w.heap.size, 0, none⟩), .int .i64 (IntKind.i64.wrap (k + 1))]) (L' := [(wr.heap.size + rowBlocks k + 1 + 13, .cells (asC k x).cells 29), (wr.heap.size + rowBlocks k, .cells (rowOf k).cells 84), (w.heap.size, .cells zeroI.cells 29)]) (t := wr.heap.size + rowBlocks k + 1 + 13 + 1 + m) (qs := [(.val (.bool (decide ((k : Int) ≤ 47))), .val (.bool true))])
                (by kernel_rfl) (by kernel_rfl) (by simp [hle]) ?_
              intro a' W' hK' hO' _
              rw [wrap_succ k hk] at hK'
              refine ⟨⟨k + 1, by omega, by omega, hK', hO'.sub (.cons _ (.cons _ (.refl _))), hno_step hno hhit⟩, ?_⟩
              have := hK'.get (7, .int .i64 ((k + 1 : Nat) : Int)) (by simp)
              simp only at this
              rw [this, hmu]
              simp only [intOf]
              omega
            · rw [hb] at hf hhit
              have hfi : (asC k x).fit := asC_fit k x hk hb
              have hl := laid_gives (rowOf k) (asC k x) (row_nice k hk).toGood hfi
              cases hw : laidV (rowOf k) (asC k x) == x
              · refine wp_piece_at (S := withBoth four [rowC k (rowOf k) true (rowBlocks k), readRC k x, fitsC (rowOf k) (asC k x) true m, laidC (rowOf k) (asC k x) (laidV (rowOf k) (asC k x)) 9] 27 [32, 52] [.bool true, .bool false]) (withBoth_holds (gives_cons hr (gives_cons hre (gives_cons hf (gives_cons hl cl_nil))))) mixed 200 27
                  ⟨56, [(0, .int .u32 x), (2, .pointer (some ⟨0, 0, none⟩)), (7, .int .i64 k)]⟩ ⟨[(0, .cells zeroI.cells 29)], 1000, none, [], [], 0, 0⟩ hK hO [0, 2, 7]
                  (x := .normal) (m' := 56) (vs := [.int .u32 x, .pointer (some ⟨w.heap.size, 0, none⟩), .int .i64 (IntKind.i64.wrap (k + 1))]) (L' := [(wr.heap.size + rowBlocks k + 1 + 13, .cells (asC k x).cells 29), (wr.heap.size + rowBlocks k, .cells (rowOf k).cells 84), (w.heap.size, .cells zeroI.cells 29)]) (t := wr.heap.size + rowBlocks k + 1 + 13 + 1 + m + 9) (qs := [(.val (.bool (laidV (rowOf k) (asC k x) == x)), .val (.bool false)), (.val (.bool (decide ((k : Int) ≤ 47))), .val (.bool true))])
                  (by kernel_rfl) (by kernel_rfl) (by intro q hq; simp only [List.mem_cons, List.not_mem_nil, or_false] at hq; rcases hq with rfl | rfl <;> first | (rw [hw]; done) | (rw [decide_eq_true hle]; done)) ?_
                intro a' W' hK' hO' _
                rw [wrap_succ k hk] at hK'
                refine ⟨⟨k + 1, by omega, by omega, hK', hO'.sub (.cons _ (.cons _ (.refl _))), hno_step hno (by rw [hhit, hw]; rfl)⟩, ?_⟩
                have := hK'.get (7, .int .i64 ((k + 1 : Nat) : Int)) (by simp)
                simp only at this
                rw [this, hmu]
                simp only [intOf]
                omega
              · refine wp_piece_at (S := withBoth four [rowC k (rowOf k) true (rowBlocks k), readRC k x, fitsC (rowOf k) (asC k x) true m, laidC (rowOf k) (asC k x) (laidV (rowOf k) (asC k x)) 9] 27 [32, 52] [.bool true, .bool true]) (withBoth_holds (gives_cons hr (gives_cons hre (gives_cons hf (gives_cons hl cl_nil))))) mixed 200 27
                  ⟨56, [(0, .int .u32 x), (2, .pointer (some ⟨0, 0, none⟩)), (7, .int .i64 k)]⟩ ⟨[(0, .cells zeroI.cells 29)], 1000, none, [], [], 0, 0⟩ hK hO [2, 3]
                  (x := .ret) (m' := 56) (vs := [.pointer (some ⟨w.heap.size, 0, none⟩), .int .i64 0]) (L' := [(wr.heap.size + rowBlocks k + 1 + 13, .cells (asC k x).cells 29), (wr.heap.size + rowBlocks k, .cells (rowOf k).cells 84), (w.heap.size, .cells (asC k x).cells 29)]) (t := wr.heap.size + rowBlocks k + 1 + 13 + 1 + m + 9) (qs := [(.val (.bool (laidV (rowOf k) (asC k x) == x)), .val (.bool true)), (.val (.bool (decide ((k : Int) ≤ 47))), .val (.bool true))])
                  (by kernel_rfl) (by kernel_rfl) (by intro q hq; simp only [List.mem_cons, List.not_mem_nil, or_false] at hq; rcases hq with rfl | rfl <;> first | (rw [hw]; done) | (rw [decide_eq_true hle]; done)) ?_
                intro a' W' hK' hO' _
                simp only [Exit.then, Exit.inBlock]
                refine bodyPost_known (w0 := w) (some [2, 2, 2, 2, 2, 2]) (.inl rfl) hK' hO' (v := .tuple #[.agg (asC k x).cells, .int .i64 0]) (by kernel_rfl) (by kernel_rfl) (by kernel_rfl) ⟨?_, hO'.below⟩
                rw [cdecV_hit x k hnf hk1 hk (by rw [hhit, hw]; rfl) hno]
          · have : k = 48 := by omega
            subst this
            refine wp_piece_at (S := withCalls four []) (withCalls_holds cl_nil) mixed 200 27
              ⟨56, [(0, .int .u32 x), (2, .pointer (some ⟨0, 0, none⟩)), (7, .int .i64 48)]⟩ ⟨[(0, .cells zeroI.cells 29)], 1000, none, [], [], 0, 0⟩ hK hO [2]
              (x := .exit 2) (m' := 56) (vs := [.pointer (some ⟨w.heap.size, 0, none⟩)]) (L' := [(w.heap.size, .cells zeroI.cells 29)]) (t := wr.heap.size) (qs := [])
              (by kernel_rfl) (by kernel_rfl) (by simp) ?_
            intro a' W' hK' hO' hsz
            clear hsz
            simp only [Exit.then, Exit.inBlock, if_true]
            rename_i hKK
            refine hKK _ _ ?_
            refine wp_piece_at (S := withCalls four []) (withCalls_holds cl_nil) mixed 200 27
              ⟨56, [(2, .pointer (some ⟨0, 0, none⟩))]⟩ ⟨[(0, .cells zeroI.cells 29)], 1000, none, [], [], 0, 0⟩ hK' hO' [2, 3]
              (x := .ret) (m' := 56) (vs := [.pointer (some ⟨w.heap.size, 0, none⟩), .int .i64 7]) (L' := [(w.heap.size, .cells zeroI.cells 29)]) (t := W'.heap.size) (qs := [])
              (by kernel_rfl) (by kernel_rfl) (by simp) ?_
            intro a2 W2 hK2 hO2 _
            refine bodyPost_known (w0 := w) (some [0, 0, 0, 0, 0, 0]) (.inl rfl) hK2 hO2 (v := .tuple #[.agg zeroI.cells, .int .i64 7]) (by kernel_rfl) (by kernel_rfl) (by kernel_rfl) ⟨?_, hO2.below⟩
            rw [cdecV_none x hnf hno]
      · intro k c w3 cnt3 hwx hwc hlx hat hrg3 hlt hg3 hs3 hen
        have hent := fixed_entry (hhas.out _ hlx) hat
        have HENT := Lib.hid hent
        have hB3 : Hid (Below (w.heap.size + 1) (w.alloc (.cells zeroI.cells 29)) w3) := Below.trans hBr.out ((Below.refl _ _).grown hg3 hlt0 (fun j hj => by cases hj; omega))
        clear hent
        by_cases hc : c = (x : Int)
        · have t3 : (c == (x : Int)) = true := by simpa using hc
          have HV : Hid (cdecV x = .tuple #[.agg #[.int .i64 k, .int .i64 0, .int .i64 0, .int .i64 0, .int .i64 0, .int .i64 0], .int .i64 0]) := by
            rcases HENT.out with ⟨rfl, rfl⟩ | ⟨rfl, rfl⟩ | ⟨rfl, rfl⟩ | ⟨rfl, rfl⟩
            · exact cdecV_fixed x 30 3573759423 (by decide) (by omega)
            · exact cdecV_fixed x 31 3573759935 (by decide) (by omega)
            · exact cdecV_fixed x 32 3573751839 (by decide) (by omega)
            · exact cdecV_fixed x 34 3560964096 (by decide) (by omega)
          obtain ⟨z0, z1, z2, z3, z4, z5, y0, y1, y2, y3, y4, y5⟩ := six_at hB3.out
          clear hc hwx hwc hlx hat hrg3 hlt hg3 hs3 hrg
          go_wp2_with fail
          have hb1 : Below w.heap.size w w3 := ((Below.refl _ _).alloc (Nat.le_refl _) _).trans (Below.mono hB3.out (by omega))
          refine bodyPost_ret (v := .tuple #[.agg #[.int .i64 k, .int .i64 0, .int .i64 0, .int .i64 0, .int .i64 0, .int .i64 0], .int .i64 0]) (by simp [results, Try.results27, go_sem, z0, z1, z2, z3, z4, z5]) rfl ⟨by rw [HV.out], ?_⟩
          clear z0 z1 z2 z3 z4 z5 y0 y1 y2 y3 y4 y5
          go_grown
        · have t3 : (c == (x : Int)) = false := by simpa using hc
          have HT : Hid (∀ p ∈ fixedTab, (left (.int .i64 p.1) && !Lit.sameKey (.int .i64 p.1) (.int .i64 k)) = true ∨ p.2 ≠ x) := by
            intro p hp
            rcases htab.out p hp with h | h
            · by_cases hpk : (p.1 : Int) = k
              · right
                simp only [fixedTab, List.mem_cons, List.not_mem_nil, or_false] at hp
                have := HENT.out
                rcases hp with rfl | rfl | rfl | rfl <;> simp only at hpk ⊢ <;> omega
              · left
                rw [h]
                have : Lit.sameKey (.int .i64 p.1) (.int .i64 k) = false := by
                  cases hsk : Lit.sameKey (.int .i64 p.1) (.int .i64 k) with
                  | false => rfl
                  | true => exact (hpk (by simpa [Lit.sameKey] using hsk)).elim
                rw [this]; rfl
            · exact .inr h
          have HH : Hid (∀ kl, (left kl && !kl.sameKey (.int .i64 k)) = true → Maps.has (fixedD (H := Unit)) kl = true) := fun kl h => hhas.out kl (by
            cases hl : left kl with
            | true => rfl
            | false => rw [hl] at h; cases h)
          clear hc hat hwx hwc
          go_wp2_with fail
          go_roundw
          case rel => exact ⟨_, cnt3, hrg3, HH.out, HT.out, hB3⟩
          case measure => rw [hrg3.left_eq, hrg.left_eq]; exact hlt
  by_cases h2 : x / 16777216 = 212
  · have t1 : (((x : Int) / 16777216) == 213) = false := by simp; omega
    have t2 : (((x : Int) / 16777216) == 212) = true := by simp; omega
    go_wp2_with fail
    refine (fixed_any _).mono ?_
    rintro e w1 ⟨rfl, hb1, hs1, hmap⟩
    have hown0 := fixed_owns (H := Unit) (hmap _ (List.mem_cons_self))
    have hB1 : Hid (Below (w.heap.size + 1) (w.alloc (.cells zeroI.cells 29)) w1) := by
      show Below _ _ _
      simpa [zeroI, I.cells] using hb1
    have hz1 : w.heap.size + 1 < w1.heap.size := by have := hs1; simp at this; omega
    clear hb1 hs1 hmap
    rw [World.size_alloc] at hown0
    go_wp2_with (at_range; refine wpList_range_own _ rfl _ 89 rfl 3 62 law3 Try.underlying89 _ (w.heap.size + 1) 4 _ rfl hown0 ?_; intro w2 hrg0 hg0 hs0)
    go_frame
    have hB2 : Hid (Below (w.heap.size + 1) (w.alloc (.cells zeroI.cells 29)) w2) := Below.trans hB1.out ((Below.refl _ _).grown hg0 (by omega) (fun k hk => by cases hk))
    clear hg0 hs0 hown0
    go_loopw [5] (fun _ wr => ∃ (left : Lit → Bool) (cnt : Nat), wr.ranges Try.prog 3 (plainElem (H := Unit) Try.prog 62) (w.heap.size + 1) w1.heap.size 4 fixedD left cnt ∧ Hid (∀ kl, left kl = true → Maps.has (fixedD (H := Unit)) kl = true) ∧ Hid (∀ p ∈ fixedTab, left (.int .i64 p.1) = true ∨ p.2 ≠ x) ∧ Hid (Below (w.heap.size + 1) (w.alloc (.cells zeroI.cells 29)) wr)) (fun _ wr => wr.rangeLeft (w.heap.size + 1) w1.heap.size)
    case atStart => exact ⟨_, _, hrg0, fun _ h => h, fun p hp => .inl (by revert p; decide), hB2⟩
    case round =>
      obtain ⟨left, cnt, hrg, hhas, htab, hBr⟩ := hrel
      have hlt0 : w.heap.size + 1 ≤ wr.heap.size := by have := hBr.out.size; simpa using this
      go_wp2_with (at_next; refine wpList_next_ranges_ii _ rfl _ rfl 3 62 .i64 .u32 law3 Try.underlying3 Try.underlying62 (w.heap.size + 1) w1.heap.size 4 _ _ _ rfl hrg ?_ ?_)
      · intro _ hl0
        have HNF : Hid (fixedTab.find? (fun p => p.2 == x) = none) := find_none_of fun p hp => (htab.out p hp).resolve_left (by rw [hl0]; decide)
        clear hl0
        go_wp2_with fail
        have hnf := HNF.out
        have hown : Own w [(w.heap.size, .cells zeroI.cells 29)] wr := own_of_below hBr.out
        refine wp_loop (fun a wr => ∃ k : Nat, 1 ≤ k ∧ k ≤ 48 ∧ Known 56 [(0, .int .u32 x), (2, .pointer (some ⟨w.heap.size, 0, none⟩)), (7, .int .i64 k)] a ∧ Own w [(w.heap.size, .cells zeroI.cells 29)] wr ∧ ∀ j, 1 ≤ j → j < k → hitC j x = false)
          (fun a _ => 48 - (intOf (a.tmps.getD 7 undef)).toNat) ?_ ?_
        · exact ⟨1, by omega, by omega, ⟨rfl, rfl, by simp⟩, hown, fun j h1 h2 => by omega⟩
        · rintro a wr ⟨k, hk1, hk2, hK, hO, hno⟩
          by_cases hk : k < 48
          · have hr := rowOf_gives k hk1 hk
            have hre := read_gives k x hx hk
            obtain ⟨m, hf⟩ := fits_gives (rowOf k) (asC k x) (row_nice k hk).toGood
            have hhit : hitC k x = (fitsB (rowOf k) (asC k x) && (laidV (rowOf k) (asC k x) == x)) := rfl
            have hle : ((k : Int) ≤ 47) := by omega
            have hmu : (intOf (a.tmps.getD 7 undef)).toNat = k := by
              have := hK.get (7, .int .i64 k) (by simp)
              simp only at this
              rw [this]; rfl
            cases hb : fitsB (rowOf k) (asC k x)
            · rw [hb] at hf hhit
              refine wp_piece_at (S := withBoth four [rowC k (rowOf k) true (rowBlocks k), readRC k x, fitsC (rowOf k) (asC k x) false m] 27 [32] [.bool true]) (withBoth_holds (gives_cons hr (gives_cons hre (gives_cons hf cl_nil)))) mixed 200 27
                ⟨56, [(0, .int .u32 x), (2, .pointer (some ⟨0, 0, none⟩)), (7, .int .i64 k)]⟩ ⟨[(0, .cells zeroI.cells 29)], 1000, none, [], [], 0, 0⟩ hK hO [0, 2, 7]
                (x := .normal) (m' := 56) (vs := [.int .u32 x, .pointer (some ⟨w.heap.size, 0, none⟩), .int .i64 (IntKind.i64.wrap (k + 1))]) (L' := [(wr.heap.size + rowBlocks k + 1 + 13, .cells (asC k x).cells 29), (wr.heap.size + rowBlocks k, .cells (rowOf k).cells 84), (w.heap.size, .cells zeroI.cells 29)]) (t := wr.heap.size + rowBlocks k + 1 + 13 + 1 + m) (qs := [(.val (.bool (decide ((k : Int) ≤ 47))), .val (.bool true))])
                (by kernel_rfl) (by kernel_rfl) (by simp [hle]) ?_
              intro a' W' hK' hO' _
              rw [wrap_succ k hk] at hK'
              refine ⟨⟨k + 1, by omega, by omega, hK', hO'.sub (.cons _ (.cons _ (.refl _))), hno_step hno hhit⟩, ?_⟩
              have := hK'.get (7, .int .i64 ((k + 1 : Nat) : Int)) (by simp)
              simp only at this
              rw [this, hmu]
              simp only [intOf]
              omega
            · rw [hb] at hf hhit
              have hfi : (asC k x).fit := asC_fit k x hk hb
              have hl := laid_gives (rowOf k) (asC k x) (row_nice k hk).toGood hfi
              cases hw : laidV (rowOf k) (asC k x) == x
              · refine wp_piece_at (S := withBoth four [rowC k (rowOf k) true (rowBlocks k), readRC k x, fitsC (rowOf k) (asC k x) true m, laidC (rowOf k) (asC k x) (laidV (rowOf k) (asC k x)) 9] 27 [32, 52] [.bool true, .bool false]) (withBoth_holds (gives_cons hr (gives_cons hre (gives_cons hf (gives_cons hl cl_nil))))) mixed 200 27
                  ⟨56, [(0, .int .u32 x), (2, .pointer (some ⟨0, 0, none⟩)), (7, .int .i64 k)]⟩ ⟨[(0, .cells zeroI.cells 29)], 1000, none, [], [], 0, 0⟩ hK hO [0, 2, 7]
                  (x := .normal) (m' := 56) (vs := [.int .u32 x, .pointer (some ⟨w.heap.size, 0, none⟩), .int .i64 (IntKind.i64.wrap (k + 1))]) (L' := [(wr.heap.size + rowBlocks k + 1 + 13, .cells (asC k x).cells 29), (wr.heap.size + rowBlocks k, .cells (rowOf k).cells 84), (w.heap.size, .cells zeroI.cells 29)]) (t := wr.heap.size + rowBlocks k + 1 + 13 + 1 + m + 9) (qs := [(.val (.bool (laidV (rowOf k) (asC k x) == x)), .val (.bool false)), (.val (.bool (decide ((k : Int) ≤ 47))), .val (.bool true))])
                  (by kernel_rfl) (by kernel_rfl) (by intro q hq; simp only [List.mem_cons, List.not_mem_nil, or_false] at hq; rcases hq with rfl | rfl <;> first | (rw [hw]; done) | (rw [decide_eq_true hle]; done)) ?_
                intro a' W' hK' hO' _
                rw [wrap_succ k hk] at hK'
                refine ⟨⟨k + 1, by omega, by omega, hK', hO'.sub (.cons _ (.cons _ (.refl _))), hno_step hno (by rw [hhit, hw]; rfl)⟩, ?_⟩
                have := hK'.get (7, .int .i64 ((k + 1 : Nat) : Int)) (by simp)
                simp only at this
                rw [this, hmu]
                simp only [intOf]
                omega
              · refine wp_piece_at (S := withBoth four [rowC k (rowOf k) true (rowBlocks k), readRC k x, fitsC (rowOf k) (asC k x) true m, laidC (rowOf k) (asC k x) (laidV (rowOf k) (asC k x)) 9] 27 [32, 52] [.bool true, .bool true]) (withBoth_holds (gives_cons hr (gives_cons hre (gives_cons hf (gives_cons hl cl_nil))))) mixed 200 27
                  ⟨56, [(0, .int .u32 x), (2, .pointer (some ⟨0, 0, none⟩)), (7, .int .i64 k)]⟩ ⟨[(0, .cells zeroI.cells 29)], 1000, none, [], [], 0, 0⟩ hK hO [2, 3]
                  (x := .ret) (m' := 56) (vs := [.pointer (some ⟨w.heap.size, 0, none⟩), .int .i64 0]) (L' := [(wr.heap.size + rowBlocks k + 1 + 13, .cells (asC k x).cells 29), (wr.heap.size + rowBlocks k, .cells (rowOf k).cells 84), (w.heap.size, .cells (asC k x).cells 29)]) (t := wr.heap.size + rowBlocks k + 1 + 13 + 1 + m + 9) (qs := [(.val (.bool (laidV (rowOf k) (asC k x) == x)), .val (.bool true)), (.val (.bool (decide ((k : Int) ≤ 47))), .val (.bool true))])
                  (by kernel_rfl) (by kernel_rfl) (by intro q hq; simp only [List.mem_cons, List.not_mem_nil, or_false] at hq; rcases hq with rfl | rfl <;> first | (rw [hw]; done) | (rw [decide_eq_true hle]; done)) ?_
                intro a' W' hK' hO' _
                simp only [Exit.then, Exit.inBlock]
                refine bodyPost_known (w0 := w) (some [2, 2, 2, 2, 2, 2]) (.inl rfl) hK' hO' (v := .tuple #[.agg (asC k x).cells, .int .i64 0]) (by kernel_rfl) (by kernel_rfl) (by kernel_rfl) ⟨?_, hO'.below⟩
                rw [cdecV_hit x k hnf hk1 hk (by rw [hhit, hw]; rfl) hno]
          · have : k = 48 := by omega
            subst this
            refine wp_piece_at (S := withCalls four []) (withCalls_holds cl_nil) mixed 200 27
              ⟨56, [(0, .int .u32 x), (2, .pointer (some ⟨0, 0, none⟩)), (7, .int .i64 48)]⟩ ⟨[(0, .cells zeroI.cells 29)], 1000, none, [], [], 0, 0⟩ hK hO [2]
              (x := .exit 2) (m' := 56) (vs := [.pointer (some ⟨w.heap.size, 0, none⟩)]) (L' := [(w.heap.size, .cells zeroI.cells 29)]) (t := wr.heap.size) (qs := [])
              (by kernel_rfl) (by kernel_rfl) (by simp) ?_
            intro a' W' hK' hO' hsz
            clear hsz
            simp only [Exit.then, Exit.inBlock, if_true]
            rename_i hKK
            refine hKK _ _ ?_
            refine wp_piece_at (S := withCalls four []) (withCalls_holds cl_nil) mixed 200 27
              ⟨56, [(2, .pointer (some ⟨0, 0, none⟩))]⟩ ⟨[(0, .cells zeroI.cells 29)], 1000, none, [], [], 0, 0⟩ hK' hO' [2, 3]
              (x := .ret) (m' := 56) (vs := [.pointer (some ⟨w.heap.size, 0, none⟩), .int .i64 7]) (L' := [(w.heap.size, .cells zeroI.cells 29)]) (t := W'.heap.size) (qs := [])
              (by kernel_rfl) (by kernel_rfl) (by simp) ?_
            intro a2 W2 hK2 hO2 _
            refine bodyPost_known (w0 := w) (some [0, 0, 0, 0, 0, 0]) (.inl rfl) hK2 hO2 (v := .tuple #[.agg zeroI.cells, .int .i64 7]) (by kernel_rfl) (by kernel_rfl) (by kernel_rfl) ⟨?_, hO2.below⟩
            rw [cdecV_none x hnf hno]
      · intro k c w3 cnt3 hwx hwc hlx hat hrg3 hlt hg3 hs3 hen
        have hent := fixed_entry (hhas.out _ hlx) hat
        have HENT := Lib.hid hent
        have hB3 : Hid (Below (w.heap.size + 1) (w.alloc (.cells zeroI.cells 29)) w3) := Below.trans hBr.out ((Below.refl _ _).grown hg3 hlt0 (fun j hj => by cases hj; omega))
        clear hent
        by_cases hc : c = (x : Int)
        · have t3 : (c == (x : Int)) = true := by simpa using hc
          have HV : Hid (cdecV x = .tuple #[.agg #[.int .i64 k, .int .i64 0, .int .i64 0, .int .i64 0, .int .i64 0, .int .i64 0], .int .i64 0]) := by
            rcases HENT.out with ⟨rfl, rfl⟩ | ⟨rfl, rfl⟩ | ⟨rfl, rfl⟩ | ⟨rfl, rfl⟩
            · exact cdecV_fixed x 30 3573759423 (by decide) (by omega)
            · exact cdecV_fixed x 31 3573759935 (by decide) (by omega)
            · exact cdecV_fixed x 32 3573751839 (by decide) (by omega)
            · exact cdecV_fixed x 34 3560964096 (by decide) (by omega)
          obtain ⟨z0, z1, z2, z3, z4, z5, y0, y1, y2, y3, y4, y5⟩ := six_at hB3.out
          clear hc hwx hwc hlx hat hrg3 hlt hg3 hs3 hrg
          go_wp2_with fail
          have hb1 : Below w.heap.size w w3 := ((Below.refl _ _).alloc (Nat.le_refl _) _).trans (Below.mono hB3.out (by omega))
          refine bodyPost_ret (v := .tuple #[.agg #[.int .i64 k, .int .i64 0, .int .i64 0, .int .i64 0, .int .i64 0, .int .i64 0], .int .i64 0]) (by simp [results, Try.results27, go_sem, z0, z1, z2, z3, z4, z5]) rfl ⟨by rw [HV.out], ?_⟩
          clear z0 z1 z2 z3 z4 z5 y0 y1 y2 y3 y4 y5
          go_grown
        · have t3 : (c == (x : Int)) = false := by simpa using hc
          have HT : Hid (∀ p ∈ fixedTab, (left (.int .i64 p.1) && !Lit.sameKey (.int .i64 p.1) (.int .i64 k)) = true ∨ p.2 ≠ x) := by
            intro p hp
            rcases htab.out p hp with h | h
            · by_cases hpk : (p.1 : Int) = k
              · right
                simp only [fixedTab, List.mem_cons, List.not_mem_nil, or_false] at hp
                have := HENT.out
                rcases hp with rfl | rfl | rfl | rfl <;> simp only at hpk ⊢ <;> omega
              · left
                rw [h]
                have : Lit.sameKey (.int .i64 p.1) (.int .i64 k) = false := by
                  cases hsk : Lit.sameKey (.int .i64 p.1) (.int .i64 k) with
                  | false => rfl
                  | true => exact (hpk (by simpa [Lit.sameKey] using hsk)).elim
                rw [this]; rfl
            · exact .inr h
          have HH : Hid (∀ kl, (left kl && !kl.sameKey (.int .i64 k)) = true → Maps.has (fixedD (H := Unit)) kl = true) := fun kl h => hhas.out kl (by
            cases hl : left kl with
            | true => rfl
            | false => rw [hl] at h; cases h)
          clear hc hat hwx hwc
          go_wp2_with fail
          go_roundw
          case rel => exact ⟨_, cnt3, hrg3, HH.out, HT.out, hB3⟩
          case measure => rw [hrg3.left_eq, hrg.left_eq]; exact hlt
  have t1 : (((x : Int) / 16777216) == 213) = false := by simp; omega
  have t2 : (((x : Int) / 16777216) == 212) = false := by simp; omega
  have hnf : fixedTab.find? (fun p => p.2 == x) = none := by
    rw [List.find?_eq_none]
    intro p hp
    simp only [fixedTab, List.mem_cons, List.not_mem_nil, or_false] at hp
    rcases hp with rfl | rfl | rfl | rfl <;> simp <;> omega
  have HNF := Lib.hid hnf
  clear hnf
  go_wp2_with fail
  have hnf := HNF.out
  have hown : Own w [(w.heap.size, .cells zeroI.cells 29)] (w.alloc (.cells zeroI.cells 29)) := own_new w _
  refine wp_loop (fun a wr => ∃ k : Nat, 1 ≤ k ∧ k ≤ 48 ∧ Known 56 [(0, .int .u32 x), (2, .pointer (some ⟨w.heap.size, 0, none⟩)), (7, .int .i64 k)] a ∧ Own w [(w.heap.size, .cells zeroI.cells 29)] wr ∧ ∀ j, 1 ≤ j → j < k → hitC j x = false)
    (fun a _ => 48 - (intOf (a.tmps.getD 7 undef)).toNat) ?_ ?_
  · exact ⟨1, by omega, by omega, ⟨rfl, rfl, by simp⟩, hown, fun j h1 h2 => by omega⟩
  · rintro a wr ⟨k, hk1, hk2, hK, hO, hno⟩
    by_cases hk : k < 48
    · have hr := rowOf_gives k hk1 hk
      have hre := read_gives k x hx hk
      obtain ⟨m, hf⟩ := fits_gives (rowOf k) (asC k x) (row_nice k hk).toGood
      have hhit : hitC k x = (fitsB (rowOf k) (asC k x) && (laidV (rowOf k) (asC k x) == x)) := rfl
      have hle : ((k : Int) ≤ 47) := by omega
      have hmu : (intOf (a.tmps.getD 7 undef)).toNat = k := by
        have := hK.get (7, .int .i64 k) (by simp)
        simp only at this
        rw [this]; rfl
      cases hb : fitsB (rowOf k) (asC k x)
      · rw [hb] at hf hhit
        refine wp_piece_at (S := withBoth four [rowC k (rowOf k) true (rowBlocks k), readRC k x, fitsC (rowOf k) (asC k x) false m] 27 [32] [.bool true]) (withBoth_holds (gives_cons hr (gives_cons hre (gives_cons hf cl_nil)))) mixed 200 27
          ⟨56, [(0, .int .u32 x), (2, .pointer (some ⟨0, 0, none⟩)), (7, .int .i64 k)]⟩ ⟨[(0, .cells zeroI.cells 29)], 1000, none, [], [], 0, 0⟩ hK hO [0, 2, 7]
          (x := .normal) (m' := 56) (vs := [.int .u32 x, .pointer (some ⟨w.heap.size, 0, none⟩), .int .i64 (IntKind.i64.wrap (k + 1))]) (L' := [(wr.heap.size + rowBlocks k + 1 + 13, .cells (asC k x).cells 29), (wr.heap.size + rowBlocks k, .cells (rowOf k).cells 84), (w.heap.size, .cells zeroI.cells 29)]) (t := wr.heap.size + rowBlocks k + 1 + 13 + 1 + m) (qs := [(.val (.bool (decide ((k : Int) ≤ 47))), .val (.bool true))])
          (by kernel_rfl) (by kernel_rfl) (by simp [hle]) ?_
        intro a' W' hK' hO' _
        rw [wrap_succ k hk] at hK'
        refine ⟨⟨k + 1, by omega, by omega, hK', hO'.sub (.cons _ (.cons _ (.refl _))), hno_step hno hhit⟩, ?_⟩
        have := hK'.get (7, .int .i64 ((k + 1 : Nat) : Int)) (by simp)
        simp only at this
        rw [this, hmu]
        simp only [intOf]
        omega
      · rw [hb] at hf hhit
        have hfi : (asC k x).fit := asC_fit k x hk hb
        have hl := laid_gives (rowOf k) (asC k x) (row_nice k hk).toGood hfi
        cases hw : laidV (rowOf k) (asC k x) == x
        · refine wp_piece_at (S := withBoth four [rowC k (rowOf k) true (rowBlocks k), readRC k x, fitsC (rowOf k) (asC k x) true m, laidC (rowOf k) (asC k x) (laidV (rowOf k) (asC k x)) 9] 27 [32, 52] [.bool true, .bool false]) (withBoth_holds (gives_cons hr (gives_cons hre (gives_cons hf (gives_cons hl cl_nil))))) mixed 200 27
            ⟨56, [(0, .int .u32 x), (2, .pointer (some ⟨0, 0, none⟩)), (7, .int .i64 k)]⟩ ⟨[(0, .cells zeroI.cells 29)], 1000, none, [], [], 0, 0⟩ hK hO [0, 2, 7]
            (x := .normal) (m' := 56) (vs := [.int .u32 x, .pointer (some ⟨w.heap.size, 0, none⟩), .int .i64 (IntKind.i64.wrap (k + 1))]) (L' := [(wr.heap.size + rowBlocks k + 1 + 13, .cells (asC k x).cells 29), (wr.heap.size + rowBlocks k, .cells (rowOf k).cells 84), (w.heap.size, .cells zeroI.cells 29)]) (t := wr.heap.size + rowBlocks k + 1 + 13 + 1 + m + 9) (qs := [(.val (.bool (laidV (rowOf k) (asC k x) == x)), .val (.bool false)), (.val (.bool (decide ((k : Int) ≤ 47))), .val (.bool true))])
            (by kernel_rfl) (by kernel_rfl) (by intro q hq; simp only [List.mem_cons, List.not_mem_nil, or_false] at hq; rcases hq with rfl | rfl <;> first | (rw [hw]; done) | (rw [decide_eq_true hle]; done)) ?_
          intro a' W' hK' hO' _
          rw [wrap_succ k hk] at hK'
          refine ⟨⟨k + 1, by omega, by omega, hK', hO'.sub (.cons _ (.cons _ (.refl _))), hno_step hno (by rw [hhit, hw]; rfl)⟩, ?_⟩
          have := hK'.get (7, .int .i64 ((k + 1 : Nat) : Int)) (by simp)
          simp only at this
          rw [this, hmu]
          simp only [intOf]
          omega
        · refine wp_piece_at (S := withBoth four [rowC k (rowOf k) true (rowBlocks k), readRC k x, fitsC (rowOf k) (asC k x) true m, laidC (rowOf k) (asC k x) (laidV (rowOf k) (asC k x)) 9] 27 [32, 52] [.bool true, .bool true]) (withBoth_holds (gives_cons hr (gives_cons hre (gives_cons hf (gives_cons hl cl_nil))))) mixed 200 27
            ⟨56, [(0, .int .u32 x), (2, .pointer (some ⟨0, 0, none⟩)), (7, .int .i64 k)]⟩ ⟨[(0, .cells zeroI.cells 29)], 1000, none, [], [], 0, 0⟩ hK hO [2, 3]
            (x := .ret) (m' := 56) (vs := [.pointer (some ⟨w.heap.size, 0, none⟩), .int .i64 0]) (L' := [(wr.heap.size + rowBlocks k + 1 + 13, .cells (asC k x).cells 29), (wr.heap.size + rowBlocks k, .cells (rowOf k).cells 84), (w.heap.size, .cells (asC k x).cells 29)]) (t := wr.heap.size + rowBlocks k + 1 + 13 + 1 + m + 9) (qs := [(.val (.bool (laidV (rowOf k) (asC k x) == x)), .val (.bool true)), (.val (.bool (decide ((k : Int) ≤ 47))), .val (.bool true))])
            (by kernel_rfl) (by kernel_rfl) (by intro q hq; simp only [List.mem_cons, List.not_mem_nil, or_false] at hq; rcases hq with rfl | rfl <;> first | (rw [hw]; done) | (rw [decide_eq_true hle]; done)) ?_
          intro a' W' hK' hO' _
          simp only [Exit.then, Exit.inBlock]
          refine bodyPost_known (w0 := w) (some [2, 2, 2, 2, 2, 2]) (.inl rfl) hK' hO' (v := .tuple #[.agg (asC k x).cells, .int .i64 0]) (by kernel_rfl) (by kernel_rfl) (by kernel_rfl) ⟨?_, hO'.below⟩
          rw [cdecV_hit x k hnf hk1 hk (by rw [hhit, hw]; rfl) hno]
    · have : k = 48 := by omega
      subst this
      refine wp_piece_at (S := withCalls four []) (withCalls_holds cl_nil) mixed 200 27
        ⟨56, [(0, .int .u32 x), (2, .pointer (some ⟨0, 0, none⟩)), (7, .int .i64 48)]⟩ ⟨[(0, .cells zeroI.cells 29)], 1000, none, [], [], 0, 0⟩ hK hO [2]
        (x := .exit 2) (m' := 56) (vs := [.pointer (some ⟨w.heap.size, 0, none⟩)]) (L' := [(w.heap.size, .cells zeroI.cells 29)]) (t := wr.heap.size) (qs := [])
        (by kernel_rfl) (by kernel_rfl) (by simp) ?_
      intro a' W' hK' hO' hsz
      clear hsz
      simp only [Exit.then, Exit.inBlock, if_true]
      rename_i hKK
      refine hKK _ _ ?_
      refine wp_piece_at (S := withCalls four []) (withCalls_holds cl_nil) mixed 200 27
        ⟨56, [(2, .pointer (some ⟨0, 0, none⟩))]⟩ ⟨[(0, .cells zeroI.cells 29)], 1000, none, [], [], 0, 0⟩ hK' hO' [2, 3]
        (x := .ret) (m' := 56) (vs := [.pointer (some ⟨w.heap.size, 0, none⟩), .int .i64 7]) (L' := [(w.heap.size, .cells zeroI.cells 29)]) (t := W'.heap.size) (qs := [])
        (by kernel_rfl) (by kernel_rfl) (by simp) ?_
      intro a2 W2 hK2 hO2 _
      refine bodyPost_known (w0 := w) (some [0, 0, 0, 0, 0, 0]) (.inl rfl) hK2 hO2 (v := .tuple #[.agg zeroI.cells, .int .i64 7]) (by kernel_rfl) (by kernel_rfl) (by kernel_rfl) ⟨?_, hO2.below⟩
      rw [cdecV_none x hnf hno]

end Go.Proofs.Ytgaejhhipnpopaa.Cd
