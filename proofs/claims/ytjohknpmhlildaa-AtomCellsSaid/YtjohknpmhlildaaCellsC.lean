/-
  AtomCells: the loop, and the call.
-/
import Derived.Test.YtjohknpmhlildaaCellsB
namespace Go.Proofs.Ytjohknpmhlildaa
open Go Go.RowKit
open Ex (Cont num)

def stepC (v : Int) (p : O) : Int :=
  if p.k = 2 then p.v else if p.k = 3 then p.v else if p.k = 4 then IntKind.u64.wrap (v + p.v)
  else if p.k = 5 then (if v = IntKind.u64.wrap p.n then p.v else v) else if p.k = 6 then (if v < p.v then p.v else v) else v

def goodU (v : Int) : Prop := 0 ≤ v ∧ v < 18446744073709551616
theorem wrap_good (x : Int) : goodU (IntKind.u64.wrap x) := by
  unfold goodU
  simp [IntKind.wrap, IntKind.signed, IntKind.bits]
  omega

theorem back {v x : Int} (h : goodU v) : IntKind.u64.wrap (IntKind.u64.wrap (v + x) - x) = v := by
  unfold goodU at h
  simp [IntKind.wrap, IntKind.signed, IntKind.bits]
  omega

theorem step_good {v : Int} {p : O} (h : goodU v) (hp : goodU p.v) : goodU (stepC v p) := by
  unfold stepC
  repeat' split
  all_goals first | exact hp | exact h | exact wrap_good _

theorem op_at : ∀ {l : List O} {k : Nat} {x : O} (_ : l[k]? = some x) (o : Nat), (Cont.seg o (opCells l)).at (o + k * 3) = some (.int .i64 x.k) ∧ (Cont.seg o (opCells l)).at (o + k * 3 + 1) = some (.int .i64 x.n) ∧ (Cont.seg o (opCells l)).at (o + k * 3 + 2) = some (.int .u64 x.v) := by
  intro l k x hk o
  have key : ∀ (l : List O) (k : Nat), l[k]? = some x → ∀ j u, x.cells[j]? = some u → (opCells l)[k * 3 + j]? = some u := by
    intro l
    induction l with
    | nil => intro k h; simp at h
    | cons y l ih =>
      intro k h j u hu
      have hj : j < 3 := (List.getElem?_eq_some_iff.1 hu).1
      have hy : y.cells.length = 3 := rfl
      rw [opCells, List.flatMap_cons]
      cases k with
      | zero =>
        simp only [List.getElem?_cons_zero, Option.some.injEq] at h
        subst h
        rw [List.getElem?_append_left (by omega), Nat.zero_mul, Nat.zero_add]
        exact hu
      | succ k =>
        rw [List.getElem?_append_right (by omega)]
        have := ih k (by simpa using h) j u hu
        rw [show (k + 1) * 3 + j - y.cells.length = k * 3 + j by omega]
        exact this
  have hh : ∀ j u, x.cells[j]? = some u → (Cont.seg o (opCells l)).at (o + k * 3 + j) = some u := fun j u hu => by
    have := key l k hk j u hu
    simp only [Cont.at]
    rw [if_pos (by omega), show o + k * 3 + j - o = k * 3 + j by omega]
    exact this
  exact ⟨hh 0 _ rfl, hh 1 _ rfl, hh 2 _ rfl⟩

theorem askC_ok {l : List O} {p : O} {i : Nat} (hk : l[i]? = some p) (b o c : Nat) : ∀ x ∈ askC l p b o l.length c i, x.1 = true ∧ x.2 := by
  have hlt : i < l.length := (List.getElem?_eq_some_iff.1 hk).1
  obtain ⟨h1, h2, h3⟩ := op_at hk o
  have hi : (Try.prog.info? 28).map (·.size) = some 3 := by kernel_rfl
  obtain ⟨ii, hi, hs⟩ := Option.map_eq_some_iff.1 hi
  intro x hx
  simp only [askC, List.mem_cons, List.not_mem_nil, or_false] at hx
  rcases hx with rfl | rfl | rfl | rfl | rfl
  · exact ⟨rfl, by rw [decide_eq_true (by omega)]⟩
  · exact ⟨rfl, fun W => Ex.index_run Try.underlying23 hi hs b o _ c i hlt W⟩
  · exact ⟨rfl, h1⟩
  · exact ⟨rfl, h2⟩
  · exact ⟨rfl, h3⟩

theorem round_any {l : List O} {p : O} {b o c g i : Nat} {v : Int} {w0 W : World} {a : Act} (hn : l.length ≤ maxLen) (hi : l[i]? = some p) (hv : goodU v)
    (hK : Ev.Known 97 (slC b o l.length c g v i) a) (hR : Ex.Rep w0 (fun k => k ≠ g) (Ex.E0 [segO b o l, cellB g v] none) W) {Q : Exit → Act → World → Prop}
    (hQ : ∀ a' W', Ev.Known 97 (slC b o l.length c g (stepC v p) (i + 1)) a' → Ex.Rep w0 (fun k => k ≠ g) (Ex.E0 [segO b o l, cellB g (stepC v p)] none) W' → Q .normal a' W') : bodyC.wp Try.prog Q a W := by
  have hA := askC_ok hi b o c
  have hlt : i < l.length := (List.getElem?_eq_some_iff.1 hi).1
  have hw : ∀ u, slW b o l.length c g u i = slC b o l.length c g u (i + 1) := fun u => by
    unfold slW slC
    rw [IntWalk.i64_in _ (by simp only [maxLen] at hn; omega)]
    rfl
  by_cases h2 : p.k = 2
  · have e : stepC v p = p.v := by simp [stepC, h2]
    rw [e] at hQ
    exact round2 h2 hK hR hA (by simpa only [hw] using hQ)
  by_cases h3 : p.k = 3
  · have e : stepC v p = p.v := by simp [stepC, h3]
    rw [e] at hQ
    exact round3 h3 hK hR hA (by simpa only [hw] using hQ)
  by_cases h4 : p.k = 4
  · have e : stepC v p = IntKind.u64.wrap (v + p.v) := by simp [stepC, h4]
    rw [e] at hQ
    exact round4 h4 (back hv) hK hR hA (by simpa only [hw] using hQ)
  by_cases h5 : p.k = 5
  · by_cases he : v = IntKind.u64.wrap p.n
    · have e : stepC v p = p.v := by simp only [stepC, h5]; rw [if_pos he]; rfl
      rw [e] at hQ
      exact round5a h5 he hK hR hA (by simpa only [hw] using hQ)
    · have e : stepC v p = v := by simp only [stepC, h5]; rw [if_neg he]; rfl
      rw [e] at hQ
      exact round5b h5 he hK hR hA (by simpa only [hw] using hQ)
  by_cases h6 : p.k = 6
  · by_cases he : v < p.v
    · have e : stepC v p = p.v := by simp only [stepC, h6]; rw [if_pos he]; rfl
      rw [e] at hQ
      exact round6a h6 he hK hR hA (by simpa only [hw] using hQ)
    · have e : stepC v p = v := by simp only [stepC, h6]; rw [if_neg he]; rfl
      rw [e] at hQ
      exact round6b h6 he hK hR hA (by simpa only [hw] using hQ)
  have e : stepC v p = v := by simp [stepC, h2, h3, h4, h5, h6]
  rw [e] at hQ
  exact round0 h2 h3 h4 h5 h6 hK hR hA (by simpa only [hw] using hQ)

end Go.Proofs.Ytjohknpmhlildaa
