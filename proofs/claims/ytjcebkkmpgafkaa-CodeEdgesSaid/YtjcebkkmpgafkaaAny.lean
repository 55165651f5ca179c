/-
  A region that draws its order, by what holds behind whatever part of it.
-/
import Derived.Test.YtjcebkkmpgafkaaEvL
namespace Go.Proofs.Ytjcebkkmpgafkaa.Ev
open Go Go.RowKit

section
variable {P : Program} {md : Region.Mode} {ops : Array Oper} {Q : Exit → Act → World → Prop}

def unlisted (n : Nat) (listed : Array Bool) : List Nat := (List.range n).filter fun j => !listed.getD j true

theorem mem_unlisted {n j : Nat} {listed : Array Bool} : j ∈ unlisted n listed ↔ j < n ∧ listed.getD j true = false := by
  simp only [unlisted, List.mem_filter, List.mem_range, Bool.not_eq_true']

theorem unlisted_set {n i : Nat} {listed : Array Bool} (hi : listed.getD i true = false) (hn : i < n) : (unlisted n (listed.setIfInBounds i true)).length < (unlisted n listed).length := by
  have e : unlisted n (listed.setIfInBounds i true) = (unlisted n listed).filter fun j => j != i := by
    unfold unlisted
    rw [List.filter_filter]
    refine List.filter_congr fun j _ => ?_
    by_cases h : i = j
    · subst h
      have : i < listed.size := by
        rcases Nat.lt_or_ge i listed.size with h | h
        · exact h
        · simp [h] at hi
      simp [Array.getD_eq_getD_getElem?, this]
    · simp only [Array.getD_eq_getD_getElem?, Array.getElem?_setIfInBounds_ne h]
      have : (j != i) = true := by simpa using fun e => h e.symm
      simp [this]
  rw [e]
  exact List.length_filter_lt_length_iff_exists.2 ⟨i, mem_unlisted.2 ⟨hn, hi⟩, by simp⟩

theorem wpAny_inv (Inv : Array Bool → Act → World → Prop)
    (hstep : ∀ listed a w i, listed.size = ops.size → Inv listed a w → i ∈ Region.ready md ops listed → wpOp P ops Q i (Inv (listed.setIfInBounds i true)) a w)
    (hdone : ∀ listed a w, listed.size = ops.size → Inv listed a w → Region.ready md ops listed = [] → Q .normal a w) :
    ∀ (fuel : Nat) (listed : Array Bool) (a : Act) (w : World), listed.size = ops.size → (unlisted ops.size listed).length ≤ fuel → Inv listed a w → wpAny P md ops Q fuel listed a w
  | 0, listed, a, w, hs, hf, hI => by
    have hr : Region.ready md ops listed = [] := by
      cases hr : Region.ready md ops listed with
      | nil => rfl
      | cons j r =>
        obtain ⟨h0, o, ho, -⟩ := mem_ready.1 (hr ▸ List.mem_cons_self : j ∈ Region.ready md ops listed)
        have hj : j < ops.size := (Array.getElem?_eq_some_iff.1 ho).1
        have : j ∈ unlisted ops.size listed := mem_unlisted.2 ⟨hj, h0⟩
        have hl := List.length_pos_of_mem this
        omega
    exact ⟨hr, hdone _ _ _ hs hI hr⟩
  | fuel + 1, listed, a, w, hs, hf, hI => by
    refine ⟨fun hr => hdone _ _ _ hs hI hr, fun i hi => ?_⟩
    obtain ⟨h0, o, ho, -⟩ := mem_ready.1 hi
    have hj : i < ops.size := (Array.getElem?_eq_some_iff.1 ho).1
    refine wpOp_mono (fun a' w' h => ?_) (hstep _ _ _ _ hs hI hi)
    exact wpAny_inv Inv hstep hdone fuel _ a' w' (by simpa using hs) (by have := unlisted_set h0 hj; omega) h

theorem wp_region_inv (hm : P.follows .mixedOrders = true) {id : Nat} {a : Act} {w : World} (Inv : Array Bool → Act → World → Prop)
    (h0 : Inv (Array.replicate ops.size false) a w.drew)
    (hstep : ∀ listed a w i, listed.size = ops.size → Inv listed a w → i ∈ Region.ready .any ops listed → wpOp P ops Q i (Inv (listed.setIfInBounds i true)) a w)
    (hdone : ∀ listed a w, listed.size = ops.size → Inv listed a w → Region.ready .any ops listed = [] → Q .normal a w) : (Code.region id ops true).wp P Q a w :=
  wp_region_any hm (wpAny_inv Inv hstep hdone _ _ _ _ (by simp) (by
    have := List.length_filter_le (fun j => !(Array.replicate ops.size false).getD j true) (List.range ops.size)
    simpa [unlisted] using this) h0)

/-- What comes up has all that it waits for behind it. -/
theorem ready_needs {listed : Array Bool} {i : Nat} {o : Oper} (h : i ∈ Region.ready md ops listed) (ho : ops[i]? = some o) {j : Nat} (hj : o.after.any (fun e => Region.binds md e && e.on == j) = true) : listed.getD j false = true := by
  obtain ⟨-, o', ho', hall⟩ := mem_ready.1 h
  rw [ho] at ho'
  injection ho' with ho'
  subst ho'
  obtain ⟨e, he, hb⟩ := Array.any_eq_true'.1 hj
  simp only [Bool.and_eq_true, beq_iff_eq] at hb
  rw [← hb.2]
  exact hall e he hb.1

/-- Nothing may come up: what waits for nothing that is left is behind. -/
theorem ready_none {listed : Array Bool} (h : Region.ready md ops listed = []) (hs : listed.size = ops.size) {i : Nat} {o : Oper} (ho : ops[i]? = some o) (hn : o.after.all (fun e => !Region.binds md e || listed.getD e.on false) = true) : listed.getD i false = true := by
  have hi : i < listed.size := by rw [hs]; exact (Array.getElem?_eq_some_iff.1 ho).1
  cases hl : listed.getD i false with
  | true => rfl
  | false =>
    have hl' : listed.getD i true = false := by
      simp only [Array.getD_eq_getD_getElem?, Array.getElem?_eq_getElem hi] at hl ⊢
      exact hl
    have : i ∈ Region.ready md ops listed := mem_ready.2 ⟨hl', o, ho, fun e he hb => by
      have := Array.all_eq_true_iff_forall_mem.1 hn e he
      simpa [hb] using this⟩
    rw [h] at this
    cases this

/-- One operation, from what is known of frame and memory. -/
theorem wpOp_ev {S : Ctx} {w0 W : World} {a : Act} {m i : Nat} {l : List (Nat × Value)} {L : List (Nat × Obj)} {orc : Option (List Nat)} (hk : Known m l a) (ho : Own w0 L W) {f' : F} {e' : E}
    (h : evAt P S 0 (fun _ _ _ => none) ops i ⟨m, l ++ argsW 0 a.tmps.toList⟩ ⟨L, W.heap.size, orc, [], [], 0, 0⟩ = some (f', e')) (hls : lefts e'.vc = rights e'.vc) (hq : asked e'.vc = [])
    {K : Act → World → Prop} (hK : ∀ a' W', RelF f' a' → Rep w0 e' W' → K a' W') : wpOp P ops Q i K a W :=
  evAt_sound (S := S) (fun _ _ _ _ _ h => by cases h) (fun _ _ _ _ _ h => by cases h) h (ok_of_lists hls (by rw [hq]; simp)) hk.rel (ho.rep orc 0 0) hK
end

end Go.Proofs.Ytjcebkkmpgafkaa.Ev
