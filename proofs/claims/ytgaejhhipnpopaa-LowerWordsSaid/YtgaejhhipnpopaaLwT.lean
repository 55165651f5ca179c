/-
  Expressions as trees: their instructions; how great they are.
-/
import Derived.Test.YtgaejhhipnpopaaLwM
namespace Go.Proofs.Ytgaejhhipnpopaa
open Go Go.RowKit

def binOp (op : Int) : Int := if op = 6 then 9 else if op = 7 then 3 else if op = 8 then 4 else if op = 9 then 10 else if op = 10 then 11 else if op = 11 then 5 else if op = 12 then 7 else if op = 13 then 6 else 0
def binCond (op : Int) : Int := if op = 14 then 0 else if op = 15 then 1 else if op = 16 then 3 else if op = 17 then 9 else if op = 18 then 8 else 2
def unL (op t : Int) : List I := if op = 3 then [⟨4, t, 31, t, 0, 0⟩] else if op = 4 then [⟨8, t, 31, t, 0, 0⟩] else [⟨16, 0, t, 31, 0, 0⟩, ⟨17, t, 0, 0, 0, 0⟩]
def binL (op t : Int) : List I := if binOp op = 0 then [⟨16, 0, t, t + 1, 0, 0⟩, ⟨17, t, 0, 0, 0, binCond op⟩] else [⟨binOp op, t, t, t + 1, 0, 0⟩]

/-- The instructions that put an expression into t. -/
def lay : E → Int → List I
  | .num v, t => numL t v
  | .loc v, t => [⟨6, t, 31, v, 0, 0⟩]
  | .un op x, t => lay x t ++ unL op t
  | .bin op x y, t => lay x t ++ (lay y (t + 1) ++ binL op t)

theorem numL_pos (r v : Int) : 0 < (numL r v).length := by unfold numL; simp
theorem numL_le (r v : Int) : (numL r v).length ≤ 4 := by
  unfold numL movk
  split <;> split <;> split <;> simp
theorem lay_pos : ∀ (x : E) (t : Int), 0 < (lay x t).length
  | .num v, t => numL_pos t v
  | .loc v, t => by simp [lay]
  | .un op x, t => by have := lay_pos x t; simp only [lay, List.length_append]; omega
  | .bin op x y, t => by have := lay_pos x t; simp only [lay, List.length_append]; omega
theorem unL_le (op t : Int) : (unL op t).length ≤ 2 := by unfold unL; split <;> (try split) <;> simp
theorem unL_pos (op t : Int) : 0 < (unL op t).length := by unfold unL; split <;> (try split) <;> simp
theorem binL_le (op t : Int) : (binL op t).length ≤ 2 := by unfold binL; split <;> simp
theorem lay_le : ∀ (x : E) (t : Int), (lay x t).length ≤ 4 * x.size
  | .num v, t => by have := numL_le t v; simp only [lay, E.size]; omega
  | .loc v, t => by simp [lay, E.size]
  | .un op x, t => by have := lay_le x t; have := unL_le op t; simp only [lay, List.length_append, E.size]; omega
  | .bin op x y, t => by have := lay_le x t; have := lay_le y (t + 1); have := binL_le op t; simp only [lay, List.length_append, E.size]; omega
theorem E.needs_pos : ∀ x : E, 0 < x.needs
  | .num _ => by simp [needs]
  | .loc _ => by simp [needs]
  | .un _ x => x.needs_pos
  | .bin _ x y => by have := x.needs_pos; simp only [needs]; omega

/-! ### Where each node is an operand at most once, the trees are small -/

noncomputable def szSum (l : List Nd) (R : List Nat) : Nat → Nat
  | 0 => 0
  | n + 1 => szSum l R n + (if n ∈ R then 0 else (tr l n).size)

theorem szSum_congr {l : List Nd} {R R' : List Nat} : ∀ {n : Nat}, (∀ j, j < n → (j ∈ R ↔ j ∈ R')) → szSum l R n = szSum l R' n
  | 0, _ => rfl
  | n + 1, h => by
    have h1 := h n (by omega)
    have ih := szSum_congr (l := l) (n := n) fun j hj => h j (by omega)
    simp only [szSum, ih]
    by_cases hn : n ∈ R
    · rw [if_pos hn, if_pos (h1.1 hn)]
    · rw [if_neg hn, if_neg fun h => hn (h1.2 h)]

theorem szSum_add {l : List Nd} {R : List Nat} {a : Nat} (hR : a ∉ R) : ∀ {n : Nat}, a < n → szSum l R n = szSum l (R ++ [a]) n + (tr l a).size
  | 0, h => absurd h (Nat.not_lt_zero a)
  | n + 1, h => by
    simp only [szSum]
    rcases Nat.lt_succ_iff_lt_or_eq.1 h with hlt | rfl
    · rw [szSum_add hR hlt]
      have : (n ∈ R ++ [a]) ↔ n ∈ R := by
        rw [List.mem_append, List.mem_singleton]
        exact ⟨fun h => h.elim id fun h => absurd h (by omega), .inl⟩
      by_cases hn : n ∈ R
      · rw [if_pos hn, if_pos (this.2 hn)]; omega
      · rw [if_neg hn, if_neg fun h => hn (this.1 h)]; omega
    · rw [if_neg hR, if_pos (by simp)]
      rw [szSum_congr (R' := R ++ [a]) fun j hj => by
        rw [List.mem_append, List.mem_singleton]
        exact ⟨.inl, fun h => h.elim id fun h => absurd h (by omega)⟩]
      omega

theorem refs_lt {loc : Int} {l : List Nd} (hok : nodesOk loc l) {n : Nat} (hn : n ≤ l.length) {j : Nat} (hj : j ∈ refs (l.take n)) : j < n := by
  unfold refs at hj
  obtain ⟨x, hx, hj⟩ := List.mem_flatMap.1 hj
  obtain ⟨m, hm, he⟩ := List.mem_iff_getElem.1 hx
  have hml : m < n := by rw [List.length_take] at hm; omega
  have hx' : l[m]? = some x := by
    rw [List.getElem_take] at he
    rw [← he]
    exact List.getElem?_eq_getElem (by omega)
  have h1 := hok m x hx'
  unfold Nd.refs at hj
  split at hj
  · cases hj
  · split at hj
    · have := ok_a h1 (by omega)
      rcases List.mem_singleton.1 hj with rfl
      omega
    · have := ok_a h1 (by omega)
      have := ok_b h1 (by omega)
      rcases List.mem_cons.1 hj with rfl | hj
      · omega
      · rcases List.mem_singleton.1 hj with rfl
        omega

theorem szSum_is {loc : Int} {l : List Nd} (hok : nodesOk loc l) (hd : (refs l).Nodup) : ∀ n, n ≤ l.length → szSum l (refs (l.take n)) n = n
  | 0, _ => rfl
  | n + 1, h => by
    have ih := szSum_is hok hd n (by omega)
    have ea : l[n]? = some l[n] := List.getElem?_eq_getElem (by omega)
    have hr := refs_take ea
    have hself : n ∉ refs (l.take (n + 1)) := fun hm => by
      rw [hr] at hm
      rcases List.mem_append.1 hm with hm | hm
      · have := refs_lt hok (by omega) hm; omega
      · have h1 := hok n _ ea
        unfold Nd.refs at hm
        split at hm
        · cases hm
        · split at hm
          · have := ok_a h1 (by omega)
            have := List.mem_singleton.1 hm
            omega
          · have := ok_a h1 (by omega)
            have := ok_b h1 (by omega)
            rcases List.mem_cons.1 hm with hm | hm
            · omega
            · have := List.mem_singleton.1 hm
              omega
    have hnd : (refs (l.take (n + 1))).Nodup := by
      have : refs l = refs (l.take (n + 1)) ++ refs (l.drop (n + 1)) := by
        unfold refs
        rw [← List.flatMap_append, List.take_append_drop]
      rw [this] at hd
      exact (List.nodup_append.1 hd).1
    simp only [szSum, if_neg hself]
    rw [hr] at hnd ⊢
    have h1 := hok n _ ea
    generalize l[n] = x at *
    have hdis := (List.nodup_append.1 hnd).2
    unfold Nd.refs at *
    split at hnd
    · rename_i h3
      rw [if_pos h3, List.append_nil, ih]
      by_cases h2 : x.op ≤ 1
      · rw [tr_num ea h2]; rfl
      · rw [tr_loc ea (by omega)]; rfl
    · rename_i h3
      split at hnd
      · rename_i h6
        have ha := ok_a h1 (by omega)
        have h7 : x.a.toNat ∉ refs (l.take n) := fun hm => by
          rw [if_neg h3, if_pos h6] at hdis
          exact hdis.2 _ hm _ (List.mem_singleton_self _) rfl
        rw [if_neg h3, if_pos h6]
        have := szSum_add (l := l) h7 (n := n) (by omega)
        rw [tr_un ea (by omega) (by omega) (by omega)]
        simp only [E.size]
        omega
      · rename_i h6
        have ha := ok_a h1 (by omega)
        have hb := ok_b h1 (by omega)
        rw [if_neg h3, if_neg h6] at hdis
        have h7 : x.a.toNat ∉ refs (l.take n) := fun hm => hdis.2 _ hm _ List.mem_cons_self rfl
        have h8 : x.b.toNat ∉ refs (l.take n) ++ [x.a.toNat] := fun hm => by
          rcases List.mem_append.1 hm with hm | hm
          · exact hdis.2 _ hm _ (List.mem_cons_of_mem _ (List.mem_singleton_self _)) rfl
          · have := List.mem_singleton.1 hm
            have h9 := hdis.1
            rw [this] at h9
            simp at h9
        rw [if_neg h3, if_neg h6]
        have e1 := szSum_add (l := l) h7 (n := n) (by omega)
        have e2 := szSum_add (l := l) h8 (n := n) (by omega)
        rw [show refs (l.take n) ++ [x.a.toNat] ++ [x.b.toNat] = refs (l.take n) ++ [x.a.toNat, x.b.toNat] by simp] at e2
        rw [tr_bin ea (by omega) (by omega) (by omega)]
        simp only [E.size]
        omega

theorem refs_nodup {loc : Int} {l : List Nd} (hok : nodesOk loc l) (ho : onceOk l) : (refs l).Nodup := by
  rw [List.nodup_iff_count]
  intro j
  rcases Nat.lt_or_ge j l.length with h | h
  · rw [ho j h]; split <;> omega
  · have : j ∉ refs l := fun hm => by
      have := refs_lt hok (Nat.le_refl _) (j := j) (by rw [List.take_length]; exact hm)
      omega
    rw [List.count_eq_zero.2 this]; omega

theorem tr_small {loc : Int} {l : List Nd} (h : isExpr loc l) {i : Nat} (hi : i < l.length) : (tr l i).size ≤ i + 1 := by
  have hs := szSum_is h.1 (refs_nodup h.1 h.2.2.2) (i + 1) (by omega)
  simp only [szSum] at hs
  split at hs
  · rename_i hm
    exfalso
    have ea : l[i]? = some l[i] := List.getElem?_eq_getElem hi
    have h1 := h.1 i _ ea
    rw [refs_take ea] at hm
    rcases List.mem_append.1 hm with hm | hm
    · have := refs_lt h.1 (by omega) hm; omega
    · unfold Nd.refs at hm
      split at hm
      · cases hm
      · split at hm
        · have := ok_a h1 (by omega)
          have := List.mem_singleton.1 hm
          omega
        · have := ok_a h1 (by omega)
          have := ok_b h1 (by omega)
          rcases List.mem_cons.1 hm with hm | hm
          · omega
          · have := List.mem_singleton.1 hm
            omega
  · omega

end Go.Proofs.Ytgaejhhipnpopaa
