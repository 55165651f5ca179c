/-
  CodeWords, as a whole.
-/
import Derived.Test.YtjcebkkmpgafkaaWords
namespace Go.Proofs.Ytjcebkkmpgafkaa
open Go Go.RowKit
open Ex (Cont num)

noncomputable def ctxB (rl : List (Ex.Hist → Value)) (cl : List (Ex.Hist → Ex.CallC)) (lf : List FuncId) (lp : List (Ex.Hist → Ex.LoopC)) : Ex.Ctx := Ex.mkCtx [14, fWords, fList] (awC :: cl) [(fW, 20), (fW, 68), (fW, 104)] [] rl lf lp
theorem ctxB_holds {rl : List (Ex.Hist → Value)} {cl : List (Ex.Hist → Ex.CallC)} {lf : List FuncId} {lp : List (Ex.Hist → Ex.LoopC)} (hc : Ex.AllC Try.prog cl) (hl : Ex.AllL Try.prog lp) : (ctxB rl cl lf lp).holds Try.prog :=
  Ex.mk_holds (Ex.cons_c awC_met hc) hl

theorem words_l_long (A : Option Addr) (n c : Nat) (h : 16384 < n) (W : World) : Calls Try.prog fW #[.slice A n c] W fun e w' => e = .returned (.bool true) ∧ Below W.heap.size W w' :=
  Ex.calls_value (S := ctxB [fun _ => .bool true] [fun _ => Ex.plainC fWords #[.slice A n c] (.tuple #[.slice none 0 0, .int .i64 16384, .int .i64 2])] [] []) (ctxB_holds (Ex.cons_c (fun _ => words_long A n c h) Ex.nil_c) Ex.nil_l) mixed 100 _
    (fun _ _ => [(true, Value.bool (decide ((16384 : Int) < (n : Int))) = .bool true)]) (fun ns ls => by kernel_rfl) (fun ns ls => by kernel_rfl) (fun _ _ => ⟨by rw [decide_eq_true (by omega)], trivial⟩) W

theorem words_l_none (A : Option Addr) (c : Nat) (W : World) : Calls Try.prog fW #[.slice A 0 c] W fun e w' => e = .returned (.bool true) ∧ Below W.heap.size W w' :=
  Ex.calls_value (S := ctxB [fun _ => .bool false, fun _ => .bool false, fun _ => .bool false] [fun _ => Ex.plainC fWords #[.slice A 0 c] (.tuple #[.slice none 0 0, .int .i64 0, .int .i64 0]), fun _ => Ex.plainC fList #[.slice none 0 0] (.tuple #[.slice none 0 0, .int .i64 0, .int .i64 0])] [] [])
    (ctxB_holds (Ex.cons_c (fun _ => words_none A c) (Ex.cons_c (fun _ => list_none none 0) Ex.nil_c)) Ex.nil_l) mixed 100 _
    (fun _ _ => [(true, Value.bool (decide ((16384 : Int) < ((0 : Nat) : Int))) = .bool false), (true, Value.bool (!(((0 : Nat) : Int) == ((0 : Nat) : Int))) = .bool false), (true, Value.bool (!(((0 : Nat) : Int) == ((0 : Nat) : Int))) = .bool false)]) (fun ns ls => by kernel_rfl) (fun ns ls => by kernel_rfl) (fun _ _ => ⟨by simp, by simp, by simp, trivial⟩) W

theorem words_l_bad (b o c : Nat) (l : List I) (at_ : Nat) (hn : l.length ≤ 16384) (hfit : ∀ i ∈ l, i.fit) (i : I) (hat : l[at_]? = some i) (hbad : fitsI i = false) (hall : ∀ k j, k < at_ → l[k]? = some j → fitsI j = true) (W : World) (hs : (Cont.seg o (insCells l)).sat W.heap[b]?) :
    Calls Try.prog fW #[.slice (some ⟨b, o, none⟩) l.length c] W fun e w' => e = .returned (.bool true) ∧ Below W.heap.size W w' := by
  refine Ex.calls_run (S := ctxB [fun _ => .bool false] [fun _ => badW b o c l at_] [fW] [fun h => loopW1b b o c l at_])
    (ctxB_holds (Ex.cons_c (fun _ => words_bad b o c l at_ hn hfit i hat hbad hall) Ex.nil_c) (Ex.cons_l (fun _ => loopW1b_met b o c l at_ hn hfit i hat hbad hall) Ex.nil_l)) mixed 100
    (orc := Ex.traceC Try.prog (ctxB [fun _ => .bool false] [fun _ => badW 1 0 7 [i0] 0] [fW] [fun h => loopW1b 1 0 7 [i0] 0]) 100 fW #[.slice (some ⟨1, 0, none⟩) 1 7] [segB 1 0 [i0]])
    (v := fun ns _ => .bool true) (L' := fun ns _ => [segB b o l])
    (q := fun ns _ => [(true, Value.bool (decide ((16384 : Int) < (l.length : Int))) = .bool false)])
    (fun ns ls => by kernel_rfl) (fun ns ls => by kernel_rfl) (seg_rep (l := [(b, .seg o (insCells l))]) (fun p hp => by rcases List.mem_singleton.1 hp with rfl; exact hs))
    (fun ns ls => ⟨by rw [decide_eq_false (by omega)], fun W' hR => ⟨rfl, hR.below⟩⟩)

theorem words_l_good (b o c : Nat) (l : List I) (h0 : 0 < l.length) (hn : l.length ≤ 16384) (hfit : ∀ i ∈ l, i.fit) (hall : ∀ i ∈ l, fitsI i = true) (W : World) (hs : (Cont.seg o (insCells l)).sat W.heap[b]?) :
    Calls Try.prog fW #[.slice (some ⟨b, o, none⟩) l.length c] W fun e w' => e = .returned (.bool true) ∧ Below W.heap.size W w' := by
  exact Ex.calls_plain (S := ctxB [fun _ => .bool false, fun _ => .bool false, fun _ => .bool false] [fun _ => goodW b o c l, fun h => backW (num h 0) (num h 1) l] [fW]
      [fun h => loopW1 b o c l (.slice (some ⟨num h 0, 0, none⟩) l.length (num h 1)) (.int .i64 0) (.int .i64 0), fun h => loopW2 b o c (num h 0) (num h 1) l, fun h => loopW3 b o c (num h 0) (num h 1) l])
    (ctxB_holds (Ex.cons_c (fun _ => words_good b o c l h0 hn hfit hall) (Ex.cons_c (fun _ => backW_met _ _ l h0 hn hall) Ex.nil_c))
      (Ex.cons_l (fun _ => loopW1_met b o c l _ _ _ hn hfit hall) (Ex.cons_l (fun _ => loopW2_met b o c _ _ l hn hall) (Ex.cons_l (fun _ => loopW3_met b o c _ _ l hn) Ex.nil_l)))) mixed 100
    (Ex.traceC Try.prog (ctxB [fun _ => .bool false, fun _ => .bool false, fun _ => .bool false] [fun _ => goodW 1 0 7 [i0], fun h => backW (num h 0) (num h 1) [i0]] [fW]
      [fun h => loopW1 1 0 7 [i0] (.slice (some ⟨num h 0, 0, none⟩) 1 (num h 1)) (.int .i64 0) (.int .i64 0), fun h => loopW2 1 0 7 (num h 0) (num h 1) [i0], fun h => loopW3 1 0 7 (num h 0) (num h 1) [i0]]) 100 fW #[.slice (some ⟨1, 0, none⟩) 1 7] [segB 1 0 [i0]])
    (.bool true) (fun ns _ => [(false, l.length ≤ ns 1), (true, Value.bool (decide ((16384 : Int) < (l.length : Int))) = .bool false), (true, Value.bool (!((l.length : Int) == (l.length : Int))) = .bool false), (false, l.length ≤ ns 5), (true, Value.bool (!((l.length : Int) == (l.length : Int))) = .bool false)])
    (fun ns ls => by kernel_rfl) (fun ns ls => by kernel_rfl) (fun ns ls => fun _ => ⟨by rw [decide_eq_false (by omega)], by simp, fun _ => ⟨by simp, trivial⟩⟩)
    (seg_rep (l := [(b, .seg o (insCells l))]) (fun p hp => by rcases List.mem_singleton.1 hp with rfl; exact hs))

theorem words_l_any (b o c : Nat) (l : List I) (h0 : 0 < l.length) (hfit : ∀ i ∈ l, i.fit) (W : World) (hs : (Cont.seg o (insCells l)).sat W.heap[b]?) :
    Calls Try.prog fW #[.slice (some ⟨b, o, none⟩) l.length c] W fun e w' => e = .returned (.bool true) ∧ Below W.heap.size W w' := by
  by_cases hn : l.length ≤ 16384
  · rcases first_bad fitsI l with h | ⟨k, x, h1, h2, h3⟩
    · exact words_l_good b o c l h0 hn hfit h W hs
    · exact words_l_bad b o c l k hn hfit x h1 h2 h3 W hs
  · exact words_l_long _ _ c (by omega) W

end Go.Proofs.Ytjcebkkmpgafkaa
