/-
  CodeEdges: five copies of an instruction, made in whatever order.
-/
import Derived.Test.YtjcebkkmpgafkaaLawAsk
import Derived.Test.YtjcebkkmpgafkaaLawDecs
import Derived.Test.YtjcebkkmpgafkaaEwC
namespace Go.Proofs.Ytjcebkkmpgafkaa
open Go Go.RowKit Ev

structure R5 (W0 : World) (T : TypeId) (pc : Array Value) (listed : Array Bool) (ps vs : List Value) (w : World) : Prop where
  below : Below W0.heap.size W0 w
  lp : ps.length = 5
  lv : vs.length = 5
  loads : ∀ j, j < 5 → listed.getD j false = true → vs[j]? = some (.agg pc)
  allocs : ∀ j, j < 5 → listed.getD (5 + j) false = true → ∃ g cs, ps[j]? = some (.pointer (some ⟨g, 0, none⟩)) ∧ W0.heap.size ≤ g ∧ w.heap[g]? = some (.cells cs T (0, 0)) ∧ cs.size = 6 ∧ (listed.getD (10 + j) false = true → cs = pc)
  apart : ∀ i j, i < 5 → j < 5 → i ≠ j → listed.getD (5 + i) false = true → listed.getD (5 + j) false = true → ps[i]? ≠ ps[j]?

theorem getD_true {listed : Array Bool} {i j : Nat} (h : (listed.setIfInBounds i true).getD j false = true) (hne : i ≠ j) : listed.getD j false = true := by
  simp only [Array.getD_eq_getD_getElem?, Array.getElem?_setIfInBounds_ne hne] at h ⊢
  exact h

section
variable {W0 w : World} {T : TypeId} {pc : Array Value} {listed : Array Bool} {ps vs : List Value}

theorem R5.load (h : R5 W0 T pc listed ps vs w) (j : Nat) (hj : j < 5) : R5 W0 T pc (listed.setIfInBounds j true) ps (vs.set j (.agg pc)) w := by
  refine ⟨h.below, h.lp, by simp [h.lv], fun i hi hl => ?_, fun i hi hl => ?_, fun i k hi hk hne h1 h2 => ?_⟩
  · by_cases he : j = i
    · subst he
      rw [List.getElem?_set_self (by rw [h.lv]; exact hj)]
    · rw [List.getElem?_set_ne he]
      exact h.loads i hi (getD_true hl he)
  · obtain ⟨g, cs, h1, h2, h3, h4, h5⟩ := h.allocs i hi (getD_true hl (by omega))
    exact ⟨g, cs, h1, h2, h3, h4, fun h6 => h5 (getD_true h6 (by omega))⟩
  · exact h.apart i k hi hk hne (getD_true h1 (by omega)) (getD_true h2 (by omega))

theorem R5.keep {w' : World} (h : R5 W0 T pc listed ps vs w) (hb : Below w.heap.size w w') : R5 W0 T pc listed ps vs w' := by
  refine ⟨h.below.trans (hb.mono h.below.size), h.lp, h.lv, h.loads, fun i hi hl => ?_, h.apart⟩
  obtain ⟨g, cs, h1, h2, h3, h4, h5⟩ := h.allocs i hi hl
  exact ⟨g, cs, h1, h2, (hb.block g (Array.getElem?_eq_some_iff.1 h3).1).trans h3, h4, h5⟩

theorem R5.alloc {w' : World} (h : R5 W0 T pc listed ps vs w) (j : Nat) (hj : j < 5) (hno : listed.getD (10 + j) false = false) (cs : Array Value) (hcs : cs.size = 6) (g0 : Nat) (hb : Below w.heap.size w w') (hg0 : w.heap.size ≤ g0) (hw : w'.heap[g0]? = some (.cells cs T (0, 0))) :
    R5 W0 T pc (listed.setIfInBounds (5 + j) true) (ps.set j (.pointer (some ⟨g0, 0, none⟩))) vs w' := by
  have hlt : ∀ g o, w.heap[g]? = some o → g < w.heap.size := fun g o hg => (Array.getElem?_eq_some_iff.1 hg).1
  have h' := h.keep hb
  have hs := h.below.size
  refine ⟨h'.below, by simp [h.lp], h.lv, fun i hi hl => h.loads i hi (getD_true hl (by omega)), fun i hi hl => ?_, fun i k hi hk hne h1 h2 => ?_⟩
  · by_cases he : j = i
    · subst he
      refine ⟨g0, cs, List.getElem?_set_self (by rw [h.lp]; exact hj), by omega, hw, hcs, fun h6 => ?_⟩
      rw [getD_true h6 (by omega)] at hno
      cases hno
    · obtain ⟨g, cs', h1, h2, h3, h4, h5⟩ := h'.allocs i hi (getD_true hl (by omega))
      exact ⟨g, cs', by rw [List.getElem?_set_ne he]; exact h1, h2, h3, h4, fun h6 => h5 (getD_true h6 (by omega))⟩
  · have key : ∀ i, i < 5 → i ≠ j → listed.getD (5 + i) false = true → ps[i]? ≠ some (.pointer (some ⟨g0, 0, none⟩)) := fun i hi _ hl he => by
      obtain ⟨g, cs', h1, h2, h3, h4, h5⟩ := h.allocs i hi hl
      rw [h1] at he
      injection he with he; injection he with he; injection he with he; injection he with he
      have := hlt _ _ h3
      omega
    by_cases he : j = i
    · subst he
      rw [List.getElem?_set_self (by rw [h.lp]; exact hj), List.getElem?_set_ne hne]
      exact fun he => key k hk (Ne.symm hne) (getD_true h2 (by omega)) he.symm
    · by_cases hf : j = k
      · subst hf
        rw [List.getElem?_set_self (by rw [h.lp]; exact hj), List.getElem?_set_ne he]
        exact key i hi hne (getD_true h1 (by omega))
      · rw [List.getElem?_set_ne he, List.getElem?_set_ne hf]
        exact h.apart i k hi hk hne (getD_true h1 (by omega)) (getD_true h2 (by omega))

theorem R5.store (h : R5 W0 T pc listed ps vs w) (j : Nat) (hj : j < 5) (g : Nat) (hg : ps[j]? = some (.pointer (some ⟨g, 0, none⟩))) (ha : listed.getD (5 + j) false = true) (w' : World)
    (e1 : w'.os = w.os) (e2 : w'.tape = w.tape) (e3 : w'.output = w.output) (e4 : w.heap.size ≤ w'.heap.size) (e5 : ∀ k, k < w.heap.size → k ≠ g → w'.heap[k]? = w.heap[k]?) (e6 : w'.heap[g]? = some (.cells pc T (0, 0))) (hpc : pc.size = 6) : R5 W0 T pc (listed.setIfInBounds (10 + j) true) ps vs w' := by
  obtain ⟨g', cs', h1, h2, -⟩ := h.allocs j hj ha
  rw [hg] at h1
  injection h1 with h1; injection h1 with h1; injection h1 with h1; injection h1 with h1
  subst h1
  refine ⟨⟨e1.trans h.below.os, e2.trans h.below.tape, e3.trans h.below.output, Nat.le_trans h.below.size e4, fun k hk => (e5 k (Nat.lt_of_lt_of_le hk h.below.size) (by omega)).trans (h.below.block k hk)⟩, h.lp, h.lv, fun i hi hl => h.loads i hi (getD_true hl (by omega)), fun i hi hl => ?_, fun i k hi hk hne h1 h2 => h.apart i k hi hk hne (getD_true h1 (by omega)) (getD_true h2 (by omega))⟩
  by_cases he : j = i
  · subst he
    exact ⟨g, pc, hg, h2, e6, hpc, fun _ => rfl⟩
  · have hl' := getD_true hl (show 10 + j ≠ 5 + i by omega)
    obtain ⟨g', cs', h1, h2, h3, h4, h5⟩ := h.allocs i hi hl'
    have hne : g' ≠ g := fun e => by
      subst e
      exact h.apart j i hj hi he ha hl' (hg.trans h1.symm)
    exact ⟨g', cs', h1, h2, (e5 _ (Array.getElem?_eq_some_iff.1 h3).1 hne).trans h3, h4, fun h6 => h5 (getD_true h6 (by omega))⟩
end

/-- The slots of a copy's place. -/
noncomputable def r11 : Code := Ew.regionOf Try.f5 11

def nameOf (ns : List (Nat × List Value)) (j : Nat) : Nat := (ns.getD j (0, [])).1

/-- Region 11: five copies of what lies in block b. -/
noncomputable def copies (v1 v2 v3 v4 v6 : Value) (b : Nat) (pc : Array Value) : Ew.LoopC :=
  ⟨r11, 89, [(1, v1), (2, v2), (3, v3), (4, v4), (5, .pointer (some ⟨b, 0, none⟩)), (6, v6)],
   ⟨[(b, .cells pc 34 (0, 0))], [], 5, fun _ => True, fun _ => [], fun ns => (List.range 5).map fun j => (nameOf ns j, .cells pc 34 (0, 0))⟩, .normal,
   fun ns => [(1, v1), (2, v2), (3, v3), (4, v4), (5, .pointer (some ⟨b, 0, none⟩)), (6, v6), (7, .pointer (some ⟨nameOf ns 0, 0, none⟩)), (8, .pointer (some ⟨nameOf ns 1, 0, none⟩)), (9, .pointer (some ⟨nameOf ns 2, 0, none⟩)), (10, .pointer (some ⟨nameOf ns 3, 0, none⟩)), (11, .pointer (some ⟨nameOf ns 4, 0, none⟩))]⟩

def slotsOf (a : Act) (ks : List Nat) : List Value := ks.map fun k => a.tmps.getD k undef

theorem slots_rel {f : Ev.F} {a : Act} (h : Ev.RelF f a) (ks : List Nat) : slotsOf a ks = ks.map f.get := by
  unfold slotsOf
  exact List.map_congr_left fun k _ => h.get k

def noCall : Ew.CallE := fun _ _ _ => .fail
theorem noCall_sound {P : Program} {w0 : World} {keep : Nat → Prop} : Ew.SoundC P w0 keep noCall := fun _ _ _ _ h => h.elim
def bareS : Ew.Ctx := Ew.mkCtx [] [] [] [] [] [] []

/-- One operation of the region, by a run. -/
theorem op_run {w0 W : World} {keep : Nat → Prop} {a : Act} {i m : Nat} {l : List (Nat × Value)} {L : List Ew.Blk} (orc : Option (List Nat)) (hk : Ev.Known m l a) (hr : Ew.Rep w0 keep (Ew.E0 L none) W) {fn : FuncId} {ops : Array Oper} (ks : List Nat)
    {m' : Nat} {vs : (Nat → Nat) → List Value} {L' : (Nat → Nat) → List Ew.Blk}
    (h1 : ∀ ns ls, ((Ew.evAt Try.prog bareS fn noCall ops i ⟨m, l ++ Ev.argsW 0 a.tmps.toList⟩ (Ew.E0 L orc)).run ns ls).map (fun y => (y.a.1.n, ks.map y.a.1.get, y.a.2.L, y.q)) = some (m', vs ns, L' ns, []))
    (h2 : ∀ ns ls, ((Ew.evAt Try.prog bareS fn noCall ops i ⟨m, l ++ Ev.argsW 0 a.tmps.toList⟩ (Ew.E0 L orc)).run ns ls).map (·.l) = ((Ew.evAt Try.prog bareS fn noCall ops i ⟨m, l ++ Ev.argsW 0 a.tmps.toList⟩ (Ew.E0 L orc)).run ns ls).map (·.r))
    {Q : Exit → Act → World → Prop} {K : Act → World → Prop} (hK : ∀ ns a' W', Ev.Known m' (ks.zip (vs ns)) a' → Ew.Rep w0 keep (Ew.E0 (L' ns) none) W' → K a' W') : wpOp Try.prog ops Q i K a W := by
  have hall : (Ew.evAt Try.prog bareS fn noCall ops i ⟨m, l ++ Ev.argsW 0 a.tmps.toList⟩ (Ew.E0 L orc)).all fun y => ∀ a' W', Ev.RelF y.1 a' → Ew.Rep w0 keep y.2 W' → K a' W' := by
    refine Ew.all_of_run _ fun ns ls => ?_
    have e1 := h1 ns ls
    have e2 := h2 ns ls
    cases hx : (Ew.evAt Try.prog bareS fn noCall ops i ⟨m, l ++ Ev.argsW 0 a.tmps.toList⟩ (Ew.E0 L orc)).run ns ls with
    | none => rw [hx] at e1; cases e1
    | some y =>
      rw [hx] at e1 e2
      simp only [Option.map_some, Option.some.injEq, Prod.mk.injEq] at e1 e2
      obtain ⟨g2, g3, g4, g5⟩ := e1
      refine ⟨y, rfl, e2, ?_⟩
      rw [g5]
      intro a' W' hf hr'
      refine hK ns a' W' ?_ (by rw [← g4]; exact hr'.of_eq rfl)
      rw [← g2, ← g3]
      exact Ev.Known.of hf _ (Ew.zip_get _ _)
  exact Ew.evAt_sound noCall_sound hall hk.rel (hr.of_eq rfl) fun a' e' b' W' hk hf hr' => hk b' W' hf hr'

end Go.Proofs.Ytjcebkkmpgafkaa
