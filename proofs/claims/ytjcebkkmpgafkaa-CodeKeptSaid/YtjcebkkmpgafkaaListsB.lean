/-
  CodeLists, as a whole.
-/
import Derived.Test.YtjcebkkmpgafkaaLists
namespace Go.Proofs.Ytjcebkkmpgafkaa
open Go Go.RowKit
open Ex (Cont num)

def awC : Ex.Hist → Ex.CallC := fun _ => Ex.plainC 14 #[] (.bool true)
theorem awC_met (x : Ex.Hist) : Ex.Meets Try.prog (awC x) := Ex.meets_plain fun W => awake_any W

noncomputable def ctxA (rl : List (Ex.Hist → Value)) (c : Ex.CallC) (lf : List FuncId) (lp : List (Ex.Hist → Ex.LoopC)) : Ex.Ctx := Ex.mkCtx [14, fList] [awC, fun _ => c] [(fL, 22), (fL, 73)] [] rl lf lp
theorem ctxA_holds {rl : List (Ex.Hist → Value)} {c : Ex.CallC} {lf : List FuncId} {lp : List (Ex.Hist → Ex.LoopC)} (hc : Ex.Meets Try.prog c) (hl : Ex.AllL Try.prog lp) : (ctxA rl c lf lp).holds Try.prog :=
  Ex.mk_holds (Ex.cons_c awC_met (Ex.cons_c (fun _ => hc) Ex.nil_c)) hl

theorem lists_long (A : Option Addr) (n c : Nat) (h : 16384 < n) (W : World) : Calls Try.prog fL #[.slice A n c] W fun e w' => e = .returned (.bool true) ∧ Below W.heap.size W w' :=
  Ex.calls_value (S := ctxA [fun _ => .bool true] (Ex.plainC fList #[.slice A n c] (.tuple #[.slice none 0 0, .int .i64 16384, .int .i64 2])) [] []) (ctxA_holds (list_long A n c h) Ex.nil_l) mixed 100 _
    (fun _ _ => [(true, Value.bool (decide ((16384 : Int) < (n : Int))) = .bool true)]) (fun ns ls => by kernel_rfl) (fun ns ls => by kernel_rfl) (fun _ _ => ⟨by rw [decide_eq_true (by omega)], trivial⟩) W

theorem lists_none (A : Option Addr) (c : Nat) (W : World) : Calls Try.prog fL #[.slice A 0 c] W fun e w' => e = .returned (.bool true) ∧ Below W.heap.size W w' :=
  Ex.calls_value (S := ctxA [fun _ => .bool false, fun _ => .bool false] (Ex.plainC fList #[.slice A 0 c] (.tuple #[.slice none 0 0, .int .i64 0, .int .i64 0])) [] []) (ctxA_holds (list_none A c) Ex.nil_l) mixed 100 _
    (fun _ _ => [(true, Value.bool (decide ((16384 : Int) < ((0 : Nat) : Int))) = .bool false), (true, Value.bool (!(((0 : Nat) : Int) == ((0 : Nat) : Int))) = .bool false)]) (fun ns ls => by kernel_rfl) (fun ns ls => by kernel_rfl) (fun _ _ => ⟨by simp, by simp, trivial⟩) W

theorem lists_good (b o c : Nat) (l : List Nat) (h0 : 0 < l.length) (hn : l.length ≤ 16384) (hfit : ∀ x ∈ l, x < 4294967296) (hall : ∀ x ∈ l, ∃ j, decI x = some j) (W : World) (hs : (Cont.seg o (numCells l)).sat W.heap[b]?) :
    Calls Try.prog fL #[.slice (some ⟨b, o, none⟩) l.length c] W fun e w' => e = .returned (.bool true) ∧ Below W.heap.size W w' := by
  refine Ex.calls_run (S := ctxA [fun _ => .bool false, fun _ => .bool false] (goodV b o c l) [fL] [fun h => loopL1 b o c l (.slice (some ⟨num h 0, 0, none⟩) l.length (num h 1)) (.int .i64 0) (.int .i64 0), fun h => loopL2 b o c (num h 0) (num h 1) l])
    (ctxA_holds (list_good b o c l h0 hn hfit hall) (Ex.cons_l (fun _ => loopL1_met b o c l _ _ _ hn hfit hall) (Ex.cons_l (fun _ => loopL2_met b o c _ _ l hn hfit hall) Ex.nil_l))) mixed 100
    (orc := Ex.traceC Try.prog (ctxA [fun _ => .bool false, fun _ => .bool false] (goodV 1 0 7 [0]) [fL] [fun h => loopL1 1 0 7 [0] (.slice (some ⟨num h 0, 0, none⟩) 1 (num h 1)) (.int .i64 0) (.int .i64 0), fun h => loopL2 1 0 7 (num h 0) (num h 1) [0]]) 100 fL #[.slice (some ⟨1, 0, none⟩) 1 7] [segN 1 0 [0]])
    (v := fun ns _ => .bool true) (L' := fun ns _ => [segN b o l, rowI (ns 0) l.length (ns 1) (insOf l)])
    (q := fun ns _ => [(false, l.length ≤ ns 1), (true, Value.bool (decide ((16384 : Int) < (l.length : Int))) = .bool false), (true, Value.bool (!((l.length : Int) == (l.length : Int))) = .bool false)])
    (fun ns ls => by kernel_rfl) (fun ns ls => by kernel_rfl) (seg_rep (l := [(b, .seg o (numCells l))]) (fun p hp => by rcases List.mem_singleton.1 hp with rfl; exact hs))
    (fun ns ls => fun _ => ⟨by rw [decide_eq_false (by omega)], by simp, fun W' hR => ⟨rfl, hR.below⟩⟩)

theorem lists_bad (b o c : Nat) (l : List Nat) (at_ : Nat) (hn : l.length ≤ 16384) (hfit : ∀ x ∈ l, x < 4294967296) (x : Nat) (hat : l[at_]? = some x) (hbad : decI x = none) (hall : ∀ k y, k < at_ → l[k]? = some y → ∃ j, decI y = some j) (W : World) (hs : (Cont.seg o (numCells l)).sat W.heap[b]?) :
    Calls Try.prog fL #[.slice (some ⟨b, o, none⟩) l.length c] W fun e w' => e = .returned (.bool true) ∧ Below W.heap.size W w' := by
  refine Ex.calls_run (S := ctxA [fun _ => .bool false] (badV b o c l at_) [fL] [fun h => loopL1b b o c l at_])
    (ctxA_holds (list_bad b o c l at_ hn hfit x hat hbad hall) (Ex.cons_l (fun _ => loopL1b_met b o c l at_ hn hfit x hat hbad hall) Ex.nil_l)) mixed 100
    (orc := Ex.traceC Try.prog (ctxA [fun _ => .bool false] (badV 1 0 7 [0] 0) [fL] [fun h => loopL1b 1 0 7 [0] 0]) 100 fL #[.slice (some ⟨1, 0, none⟩) 1 7] [segN 1 0 [0]])
    (v := fun ns _ => .bool true) (L' := fun ns _ => [segN b o l])
    (q := fun ns _ => [(true, Value.bool (decide ((16384 : Int) < (l.length : Int))) = .bool false)])
    (fun ns ls => by kernel_rfl) (fun ns ls => by kernel_rfl) (seg_rep (l := [(b, .seg o (numCells l))]) (fun p hp => by rcases List.mem_singleton.1 hp with rfl; exact hs))
    (fun ns ls => ⟨by rw [decide_eq_false (by omega)], fun W' hR => ⟨rfl, hR.below⟩⟩)

/-- The first that is not so. -/
theorem first_bad {α : Type} (p : α → Bool) : ∀ l : List α, (∀ x ∈ l, p x = true) ∨ ∃ (k : Nat) (x : α), l[k]? = some x ∧ p x = false ∧ ∀ (j : Nat) (y : α), j < k → l[j]? = some y → p y = true
  | [] => .inl fun _ h => (by cases h)
  | x :: l => by
    cases hx : p x with
    | false => exact .inr ⟨0, x, rfl, hx, fun j y h => by omega⟩
    | true =>
      rcases first_bad p l with h | ⟨k, y, h1, h2, h3⟩
      · left
        intro z hz
        rcases List.mem_cons.1 hz with rfl | hz
        · exact hx
        · exact h z hz
      · refine .inr ⟨k + 1, y, by simpa using h1, h2, fun j z hj hz => ?_⟩
        cases j with
        | zero => simp only [List.getElem?_cons_zero, Option.some.injEq] at hz; subst hz; exact hx
        | succ j => exact h3 j z (by omega) (by simpa using hz)

theorem lists_any (b o c : Nat) (l : List Nat) (h0 : 0 < l.length) (hfit : ∀ x ∈ l, x < 4294967296) (W : World) (hs : (Cont.seg o (numCells l)).sat W.heap[b]?) :
    Calls Try.prog fL #[.slice (some ⟨b, o, none⟩) l.length c] W fun e w' => e = .returned (.bool true) ∧ Below W.heap.size W w' := by
  by_cases hn : l.length ≤ 16384
  · rcases first_bad (fun x => (decI x).isSome) l with h | ⟨k, x, h1, h2, h3⟩
    · exact lists_good b o c l h0 hn hfit (fun x hx => Option.isSome_iff_exists.1 (h x hx)) W hs
    · exact lists_bad b o c l k hn hfit x h1 (by simpa using h2) (fun j y hj hy => Option.isSome_iff_exists.1 (h3 j y hj hy)) W hs
  · exact lists_long _ _ c (by omega) W

end Go.Proofs.Ytjcebkkmpgafkaa
