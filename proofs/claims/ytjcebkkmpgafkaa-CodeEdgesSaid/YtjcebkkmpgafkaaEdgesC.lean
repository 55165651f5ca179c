/-
  CodeEdges: region 11 as a whole.
-/
import Derived.Test.YtjcebkkmpgafkaaEdgesB
namespace Go.Proofs.Ytjcebkkmpgafkaa
open Go Go.RowKit

def shutE (listed : Array Bool) : Prop := ∀ j, j < 5 → listed.getD (10 + j) false = true → listed.getD (5 + j) false = true

theorem shutE_set {listed : Array Bool} (h : shutE listed) (i : Nat) (hi : ∀ j, j < 5 → i = 10 + j → listed.getD (5 + j) false = true) : shutE (listed.setIfInBounds i true) := fun j hj hl => by
  by_cases he : i = 10 + j
  · exact getD_set_true (hi j hj he)
  · exact getD_set_true (h j hj (getD_true hl he))

noncomputable def op11 (i : Nat) : Oper := (ops11[i]?).getD default

theorem needE {listed : Array Bool} {i j : Nat} (h : i ∈ Region.ready .any ops11 listed) (ho : ops11[i]? = some (op11 i)) (hj : (op11 i).after.any (fun e => Region.binds .any e && e.on == j) = true) : listed.getD j false = true := Ev.ready_needs h ho hj

theorem noE {listed : Array Bool} (hs : shutE listed) {j : Nat} (hj : j < 5) (h : 5 + j ∈ Region.ready .any ops11 listed) : listed.getD (10 + j) false = false := by
  cases hl : listed.getD (10 + j) false with
  | false => rfl
  | true =>
    have h1 := hs j hj hl
    have h2 := (mem_ready.1 h).1
    simp only [Array.getD_eq_getD_getElem?] at h1 h2
    cases he : listed[5 + j]? with
    | none => rw [he] at h2; cases h2
    | some x => rw [he] at h1 h2; simp only [Option.getD_some] at h1 h2; rw [h1] at h2; cases h2

theorem all_waits {listed : Array Bool} (after : Array Edge) (js : List Nat) (h : after.all (fun e => !Region.binds .any e || js.any (Nat.beq e.on)) = true) (hj : ∀ j ∈ js, listed.getD j false = true) : after.all (fun e => !Region.binds .any e || listed.getD e.on false) = true := by
  rw [Array.all_eq_true_iff_forall_mem] at h ⊢
  intro e he
  have := h e he
  simp only [Bool.or_eq_true, List.any_eq_true] at this ⊢
  rcases this with h1 | ⟨j, h2, h3⟩
  · exact .inl h1
  · right
    have : e.on = j := Nat.eq_of_beq_eq_true h3
    rw [this]
    exact hj j h2

theorem copies_met (v1 v2 v3 v4 v6 : Value) (b : Nat) (p : I) : Ew.MeetsL Try.prog (copies v1 v2 v3 v4 v6 b p.cells) := by
  intro a W hk hpre
  have hb : W.heap[b]? = some (.cells p.cells 34 (0, 0)) := hpre.1 _ (List.mem_singleton_self _)
  have hl : b < W.heap.size := (Array.getElem?_eq_some_iff.1 hb).1
  have e : (copies v1 v2 v3 v4 v6 b p.cells).c = .region 11 ops11 true := by kernel_rfl
  rw [e]
  have hfalse : ∀ j, (Array.replicate ops11.size false).getD j false = true → False := fun j h => by
    simp only [Array.getD_eq_getD_getElem?, Array.getElem?_replicate] at h
    split at h <;> cases h
  refine Ev.wp_region_inv mixed (fun listed a' w' => InvE v1 v2 v3 v4 v6 b p W listed a' w' ∧ shutE listed) ?_ ?_ ?_
  · exact ⟨⟨hk, ⟨⟨rfl, rfl, rfl, Nat.le_refl _, fun _ _ => rfl⟩, rfl, rfl, fun j _ h => (hfalse j h).elim, fun j _ h => (hfalse _ h).elim, fun i j _ _ _ h => (hfalse _ h).elim⟩, hb, hl⟩, fun j _ h => (hfalse _ h).elim⟩
  · rintro listed a' w' i hs ⟨hI, hsh⟩ hi
    have hi15 : i < 15 := by
      obtain ⟨-, o, ho, -⟩ := mem_ready.1 hi
      have := (Array.getElem?_eq_some_iff.1 ho).1
      rw [ops11_size] at this
      exact this
    have hset : (∀ j, j < 5 → i = 10 + j → listed.getD (5 + j) false = true) → shutE (listed.setIfInBounds i true) := shutE_set hsh i
    refine wpOp_mono (K := InvE v1 v2 v3 v4 v6 b p W (listed.setIfInBounds i true)) (fun a2 w2 h2 => ⟨h2, hset fun j hj he => ?_⟩) ?_
    · subst he
      rcases (show j = 0 ∨ j = 1 ∨ j = 2 ∨ j = 3 ∨ j = 4 by omega) with rfl | rfl | rfl | rfl | rfl
      · exact needE hi (by kernel_rfl) (by kernel_rfl)
      · exact needE hi (by kernel_rfl) (by kernel_rfl)
      · exact needE hi (by kernel_rfl) (by kernel_rfl)
      · exact needE hi (by kernel_rfl) (by kernel_rfl)
      · exact needE hi (by kernel_rfl) (by kernel_rfl)
    · rcases (show i = 0 ∨ i = 1 ∨ i = 2 ∨ i = 3 ∨ i = 4 ∨ i = 5 ∨ i = 6 ∨ i = 7 ∨ i = 8 ∨ i = 9 ∨ i = 10 ∨ i = 11 ∨ i = 12 ∨ i = 13 ∨ i = 14 by omega) with rfl | rfl | rfl | rfl | rfl | rfl | rfl | rfl | rfl | rfl | rfl | rfl | rfl | rfl | rfl
      · exact step_load0 hI
      · exact step_load1 hI
      · exact step_load2 hI
      · exact step_load3 hI
      · exact step_load4 hI
      · exact step_alloc0 hI (noE hsh (j := 0) (by omega) hi)
      · exact step_alloc1 hI (noE hsh (j := 1) (by omega) hi)
      · exact step_alloc2 hI (noE hsh (j := 2) (by omega) hi)
      · exact step_alloc3 hI (noE hsh (j := 3) (by omega) hi)
      · exact step_alloc4 hI (noE hsh (j := 4) (by omega) hi)
      · exact step_store0 hI (needE hi (by kernel_rfl) (by kernel_rfl)) (needE hi (by kernel_rfl) (by kernel_rfl))
      · exact step_store1 hI (needE hi (by kernel_rfl) (by kernel_rfl)) (needE hi (by kernel_rfl) (by kernel_rfl))
      · exact step_store2 hI (needE hi (by kernel_rfl) (by kernel_rfl)) (needE hi (by kernel_rfl) (by kernel_rfl))
      · exact step_store3 hI (needE hi (by kernel_rfl) (by kernel_rfl)) (needE hi (by kernel_rfl) (by kernel_rfl))
      · exact step_store4 hI (needE hi (by kernel_rfl) (by kernel_rfl)) (needE hi (by kernel_rfl) (by kernel_rfl))
  · rintro listed a' w' hs ⟨hI, hsh⟩ hr
    have free : ∀ i, ops11[i]? = some (op11 i) → (op11 i).after.all (fun e => !Region.binds .any e || ([] : List Nat).any (Nat.beq e.on)) = true → listed.getD i false = true := fun i ho ha =>
      Ev.ready_none hr hs ho (all_waits _ [] ha fun _ h => (by cases h))
    have l5 : ∀ j, j < 5 → listed.getD (5 + j) false = true := fun j hj => by
      rcases (show j = 0 ∨ j = 1 ∨ j = 2 ∨ j = 3 ∨ j = 4 by omega) with rfl | rfl | rfl | rfl | rfl
      · exact free 5 (by kernel_rfl) (by kernel_rfl)
      · exact free 6 (by kernel_rfl) (by kernel_rfl)
      · exact free 7 (by kernel_rfl) (by kernel_rfl)
      · exact free 8 (by kernel_rfl) (by kernel_rfl)
      · exact free 9 (by kernel_rfl) (by kernel_rfl)
    have l0 : ∀ j, j < 5 → listed.getD j false = true := fun j hj => by
      rcases (show j = 0 ∨ j = 1 ∨ j = 2 ∨ j = 3 ∨ j = 4 by omega) with rfl | rfl | rfl | rfl | rfl
      · exact free 0 (by kernel_rfl) (by kernel_rfl)
      · exact free 1 (by kernel_rfl) (by kernel_rfl)
      · exact free 2 (by kernel_rfl) (by kernel_rfl)
      · exact free 3 (by kernel_rfl) (by kernel_rfl)
      · exact free 4 (by kernel_rfl) (by kernel_rfl)
    have hall : ∀ j ∈ [0, 1, 2, 3, 4, 5, 6, 7, 8, 9], listed.getD j false = true := fun j hj => by
      simp only [List.mem_cons, List.not_mem_nil, or_false] at hj
      rcases Nat.lt_or_ge j 5 with h | h
      · exact l0 j h
      · have := l5 (j - 5) (by omega)
        rwa [show 5 + (j - 5) = j by omega] at this
    have wait : ∀ i (js : List Nat), (∀ j ∈ js, listed.getD j false = true) → ops11[i]? = some (op11 i) → (op11 i).after.all (fun e => !Region.binds .any e || js.any (Nat.beq e.on)) = true → listed.getD i false = true := fun i js hjs ho ha =>
      Ev.ready_none hr hs ho (all_waits _ js ha hjs)
    have more : ∀ (js : List Nat) (i : Nat), (∀ j ∈ js, listed.getD j false = true) → listed.getD i false = true → ∀ j ∈ i :: js, listed.getD j false = true := fun js i h1 h2 j hj => by
      rcases List.mem_cons.1 hj with rfl | hj
      · exact h2
      · exact h1 j hj
    have w10 := wait 10 _ hall (by kernel_rfl) (by kernel_rfl)
    have h10 := more _ _ hall w10
    have w11 := wait 11 _ h10 (by kernel_rfl) (by kernel_rfl)
    have h11 := more _ _ h10 w11
    have w12 := wait 12 _ h11 (by kernel_rfl) (by kernel_rfl)
    have h12 := more _ _ h11 w12
    have w13 := wait 13 _ h12 (by kernel_rfl) (by kernel_rfl)
    have h13 := more _ _ h12 w13
    have w14 := wait 14 _ h13 (by kernel_rfl) (by kernel_rfl)
    have l10 : ∀ j, j < 5 → listed.getD (10 + j) false = true := fun j hj => by
      rcases (show j = 0 ∨ j = 1 ∨ j = 2 ∨ j = 3 ∨ j = 4 by omega) with rfl | rfl | rfl | rfl | rfl
      · exact w10
      · exact w11
      · exact w12
      · exact w13
      · exact w14
    have hx : ∀ j, j < 5 → ∃ g, (slotsOf a' [7, 8, 9, 10, 11])[j]? = some (.pointer (some ⟨g, 0, none⟩)) ∧ W.heap.size ≤ g ∧ w'.heap[g]? = some (.cells p.cells 34 (0, 0)) := fun j hj => by
      obtain ⟨g, cs, h1, h2, h3, -, h5⟩ := hI.r.allocs j hj (l5 j hj)
      rw [h5 (l10 j hj)] at h3
      exact ⟨g, h1, h2, h3⟩
    obtain ⟨g0, a0, b0, c0⟩ := hx 0 (by omega)
    obtain ⟨g1, a1, b1, c1⟩ := hx 1 (by omega)
    obtain ⟨g2, a2, b2, c2⟩ := hx 2 (by omega)
    obtain ⟨g3, a3, b3, c3⟩ := hx 3 (by omega)
    obtain ⟨g4, a4, b4, c4⟩ := hx 4 (by omega)
    have ne : ∀ i j gi gj, i < 5 → j < 5 → i ≠ j → (slotsOf a' [7, 8, 9, 10, 11])[i]? = some (.pointer (some ⟨gi, 0, none⟩)) → (slotsOf a' [7, 8, 9, 10, 11])[j]? = some (.pointer (some ⟨gj, 0, none⟩)) → gi ≠ gj := fun i j gi gj hi hj hne h1 h2 he => by
      subst he
      exact hI.r.apart i j hi hj hne (l5 i hi) (l5 j hj) (h1.trans h2.symm)
    refine ⟨rfl, [(g0, []), (g1, []), (g2, []), (g3, []), (g4, [])], ⟨hI.k.defers, hI.k.size, fun q hq => ?_⟩, rfl, trivial, hI.r.below.os, hI.r.below.tape, hI.r.below.output, hI.r.below.size, fun k hk _ => hI.r.below.block k hk, fun _ h => (by cases h), rfl, fun q hq => ?_, ?_⟩
    · have hq' : q ∈ slE v1 v2 v3 v4 v6 b ++ [(7, .pointer (some ⟨g0, 0, none⟩)), (8, .pointer (some ⟨g1, 0, none⟩)), (9, .pointer (some ⟨g2, 0, none⟩)), (10, .pointer (some ⟨g3, 0, none⟩)), (11, .pointer (some ⟨g4, 0, none⟩))] := hq
      rcases List.mem_append.1 hq' with hq | hq
      · exact hI.k.get q hq
      · simp only [List.mem_cons, List.not_mem_nil, or_false] at hq
        rcases hq with rfl | rfl | rfl | rfl | rfl
        · exact Option.some.inj a0
        · exact Option.some.inj a1
        · exact Option.some.inj a2
        · exact Option.some.inj a3
        · exact Option.some.inj a4
    · have hq' : q ∈ [(g0, Obj.cells p.cells 34 (0, 0)), (g1, .cells p.cells 34 (0, 0)), (g2, .cells p.cells 34 (0, 0)), (g3, .cells p.cells 34 (0, 0)), (g4, .cells p.cells 34 (0, 0))] := hq
      simp only [List.mem_cons, List.not_mem_nil, or_false] at hq'
      rcases hq' with rfl | rfl | rfl | rfl | rfl
      · exact ⟨b0, c0⟩
      · exact ⟨b1, c1⟩
      · exact ⟨b2, c2⟩
      · exact ⟨b3, c3⟩
      · exact ⟨b4, c4⟩
    · show [g0, g1, g2, g3, g4].Nodup
      simp only [List.nodup_cons, List.mem_cons, List.not_mem_nil, or_false, not_or, List.nodup_nil, and_true, not_false_eq_true]
      exact ⟨⟨ne 0 1 _ _ (by omega) (by omega) (by omega) a0 a1, ne 0 2 _ _ (by omega) (by omega) (by omega) a0 a2, ne 0 3 _ _ (by omega) (by omega) (by omega) a0 a3, ne 0 4 _ _ (by omega) (by omega) (by omega) a0 a4⟩,
        ⟨ne 1 2 _ _ (by omega) (by omega) (by omega) a1 a2, ne 1 3 _ _ (by omega) (by omega) (by omega) a1 a3, ne 1 4 _ _ (by omega) (by omega) (by omega) a1 a4⟩,
        ⟨ne 2 3 _ _ (by omega) (by omega) (by omega) a2 a3, ne 2 4 _ _ (by omega) (by omega) (by omega) a2 a4⟩, ne 3 4 _ _ (by omega) (by omega) (by omega) a3 a4⟩

end Go.Proofs.Ytjcebkkmpgafkaa
