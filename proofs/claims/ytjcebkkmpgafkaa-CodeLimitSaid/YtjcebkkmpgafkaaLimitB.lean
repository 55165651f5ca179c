/-
  CodeLimit, as a whole.
-/
import Derived.Test.YtjcebkkmpgafkaaLimit
namespace Go.Proofs.Ytjcebkkmpgafkaa
open Go Go.RowKit
open Ex (Cont num)

def limW (g cap : Nat) (xs ws : List Value) : Ex.CallC :=
  ⟨fWords, #[.slice (some ⟨g, 0, none⟩) 16384 cap], ⟨[(g, .seg 0 xs)], [], 2, fun ns => 16384 ≤ num ns 1, fun ns => [(num ns 0, .row 26 1 16384 (num ns 1) ws)]⟩, fun ns => .tuple #[.slice (some ⟨num ns 0, 0, none⟩) 16384 (num ns 1), .int .i64 0, .int .i64 0]⟩
def limB (g cap : Nat) (xs ws : List Value) : Ex.CallC :=
  ⟨fList, #[.slice (some ⟨g, 0, none⟩) 16384 cap], ⟨[(g, .seg 0 ws)], [], 2, fun ns => 16384 ≤ num ns 1, fun ns => [(num ns 0, .row 25 6 16384 (num ns 1) xs)]⟩, fun ns => .tuple #[.slice (some ⟨num ns 0, 0, none⟩) 16384 (num ns 1), .int .i64 0, .int .i64 0]⟩

theorem limW_met (g cap : Nat) (l : List I) (hl : l.length = 16384) (hfit : ∀ i ∈ l, i.fit) (hall : ∀ i ∈ l, fitsI i = true) : Ex.Meets Try.prog (limW g cap (insCells l) (wordsOf l)) := by
  have h := words_good g 0 cap l (by omega) (by omega) hfit hall
  have e : goodW g 0 cap l = limW g cap (insCells l) (wordsOf l) := by simp only [goodW, goodL, limW, hl]
  rw [← e]
  exact h
theorem limB_met (g cap : Nat) (l : List I) (hl : l.length = 16384) (hall : ∀ i ∈ l, fitsI i = true) : Ex.Meets Try.prog (limB g cap (insCells l) (wordsOf l)) := by
  have h := backW_met g cap l (by omega) (by omega) hall
  have e : backW g cap l = limB g cap (insCells l) (wordsOf l) := by simp only [backW, limB, hl]
  rw [← e]
  exact h

def zC : Cont := .obj (.cells #[.int .u32 0] 26 (0, 0))
noncomputable def ctxZ (xs ws : List Value) : Ex.Ctx :=
  Ex.mkCtx [14, fWords, fList]
    [fun h => limW (num h 0) (num h 1) xs ws, fun h => limB (num h 0) (num h 1) xs ws, fun h => Ex.plainC fWords #[.slice (some ⟨num h 0, 0, none⟩) 16385 (num h 1)] (.tuple #[.slice none 0 0, .int .i64 16384, .int .i64 2]),
     fun h => Ex.plainC fList #[.slice (some ⟨num h 0, 0, none⟩) 16385 (num h 1)] (.tuple #[.slice none 0 0, .int .i64 16384, .int .i64 2]), awC]
    [] [] [] [fM] [fun _ => loopM xs] [] [] [(fM, 38), (fM, 47)]
    [fun h => Ex.appC [(num h 0, nopC)] [(num h 5, .row 25 6 16384 (num h 6) xs)] 25 6 16384 1 (xs ++ nopI.cells.toList),
     fun h => Ex.appC [(num h 0, zC)] [(num h 6, .row 26 1 16384 (num h 7) ws)] 26 1 16384 1 (ws ++ [.int .u32 0])]

theorem limit_any (W : World) : Calls Try.prog fM #[] W fun e w' => e = .returned (.bool true) ∧ Below W.heap.size W w' := by
  obtain ⟨l, hl⟩ : ∃ l, l = List.replicate 16384 nopI := ⟨_, rfl⟩
  have hlen : l.length = 16384 := by rw [hl, List.length_replicate]
  have hnop : ∀ i ∈ l, i = nopI := fun i hi => by rw [hl] at hi; exact List.eq_of_mem_replicate hi
  have hfit : ∀ i ∈ l, i.fit := fun i hi => by rw [hnop i hi]; exact ⟨by decide, by decide, by decide, by decide, by decide⟩
  have hnf : fitsI nopI = true := by kernel_rfl
  have hall : ∀ i ∈ l, fitsI i = true := fun i hi => by rw [hnop i hi]; exact hnf
  have hx : insCells l = nops 16384 := by rw [hl]; rfl
  have c1 := fun g cap => limW_met g cap l hlen hfit hall
  have c2 := fun g cap => limB_met g cap l hlen hall
  have c3 := loopM_met (insCells l) hx
  clear hx hnop hfit hall hlen hl hnf
  generalize insCells l = xs at *
  generalize wordsOf l = ws at *
  exact Ex.calls_plain (S := ctxZ xs ws)
    (Ex.mk_holds (Ex.cons_c (fun _ => c1 _ _) (Ex.cons_c (fun _ => c2 _ _) (Ex.cons_c (fun _ => words_long _ _ _ (by omega)) (Ex.cons_c (fun _ => list_long _ _ _ (by omega)) (Ex.cons_c awC_met Ex.nil_c))))) (Ex.cons_l (fun _ => c3) Ex.nil_l)) mixed 200
    (Ex.traceC Try.prog (ctxZ [] []) 200 fM #[] []) (.bool true)
    (fun ns _ => [(false, 16384 ≤ ns 1), (false, 16384 ≤ ns 4), (false, 16384 ≤ ns 6),
      (true, Ex.OpMeets Try.prog (Ex.appSem 50 50 (.slice (some ⟨ns 0, 0, none⟩) 16384 (ns 1)) (.slice (some ⟨ns 7, 0, none⟩) 1 1)) (Ex.appC [(ns 7, nopC)] [(ns 0, .row 25 6 16384 (ns 1) xs)] 25 6 16384 1 (xs ++ nopI.cells.toList))),
      (false, 16385 ≤ ns 9),
      (true, Ex.OpMeets Try.prog (Ex.appSem 49 49 (.slice (some ⟨ns 3, 0, none⟩) 16384 (ns 4)) (.slice (some ⟨ns 10, 0, none⟩) 1 1)) (Ex.appC [(ns 10, zC)] [(ns 3, .row 26 1 16384 (ns 4) ws)] 26 1 16384 1 (ws ++ [.int .u32 0]))),
      (false, 16385 ≤ ns 12)])
    (fun ns ls => by kernel_rfl) (fun ns ls => by kernel_rfl)
    (fun ns ls => fun _ _ _ => ⟨Ex.app_met elemI (.inr ⟨_, _, rfl, rfl⟩) rfl (by omega) nop_one (by simp only [maxLen]; omega) (by omega) nop_at,
      fun _ => ⟨Ex.app_met elemW (.inr ⟨_, _, rfl, rfl⟩) rfl (by omega) (fun u hu => by rcases List.mem_singleton.1 hu with rfl; rfl) (by simp only [maxLen]; omega) (by omega) (fun j u hu => by rw [Nat.zero_add]; exact hu), fun _ => trivial⟩⟩)
    (Ex.rep_start W)

end Go.Proofs.Ytjcebkkmpgafkaa
