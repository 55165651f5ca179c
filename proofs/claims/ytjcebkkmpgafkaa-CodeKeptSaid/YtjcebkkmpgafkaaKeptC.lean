/-
  CodeKept, as a whole. (Printed by gen_kept.py.)
-/
import Derived.Test.YtjcebkkmpgafkaaKeptB
namespace Go.Proofs.Ytjcebkkmpgafkaa
open Go Go.RowKit
open Ex (Cont num)

theorem seg_left {W : World} {g : Nat} {xs ys : List Value} (h : (Cont.seg 0 (xs ++ ys)).sat W.heap[g]?) : (Cont.seg 0 xs).sat W.heap[g]? := by
  obtain ⟨c, t, f, h, hc⟩ := h
  refine ⟨c, t, f, h, fun j u hu => hc j u ?_⟩
  rw [List.getElem?_append_left (List.getElem?_eq_some_iff.1 hu).1]
  exact hu

def words2 (F : List I) (tl : List Value) (g cap : Nat) : Ex.CallC :=
  ⟨fWords, #[.slice (some ⟨g, 0, none⟩) F.length cap], ⟨[(g, .seg 0 (insCells F ++ tl))], [], 2, fun ns => F.length ≤ num ns 1, fun ns => [(num ns 0, .row 26 1 F.length (num ns 1) (wordsOf F))]⟩, fun ns => .tuple #[.slice (some ⟨num ns 0, 0, none⟩) F.length (num ns 1), .int .i64 0, .int .i64 0]⟩
theorem words2_met (F : List I) (tl : List Value) (g cap : Nat) (h0 : 0 < F.length) (hn : F.length ≤ 100) (hfit : ∀ i ∈ F, i.fit) (hall : ∀ i ∈ F, fitsI i = true) : Ex.Meets Try.prog (words2 F tl g cap) := by
  intro W hpre
  have hs := seg_left (hpre.1 _ (List.mem_singleton_self _))
  refine (words_good g 0 cap F h0 (by omega) hfit hall W ⟨fun p hp => by rcases List.mem_singleton.1 hp with rfl; exact hs, fun _ hp => (by cases hp), List.nodup_nil, fun _ _ _ hq => (by cases hq)⟩).mono ?_
  rintro e W' ⟨ns, he, h⟩
  exact ⟨ns, he, ⟨h.len, h.hyp, h.os, h.tape, h.output, h.size, h.old, h.nw, h.nodup⟩⟩

def list2 (F : List I) (tw : List Value) (g cap : Nat) : Ex.CallC :=
  ⟨fList, #[.slice (some ⟨g, 0, none⟩) F.length cap], ⟨[(g, .seg 0 (wordsOf F ++ tw))], [], 2, fun ns => F.length ≤ num ns 1, fun ns => [(num ns 0, .row 25 6 F.length (num ns 1) (insCells F))]⟩, fun ns => .tuple #[.slice (some ⟨num ns 0, 0, none⟩) F.length (num ns 1), .int .i64 0, .int .i64 0]⟩
theorem list2_met (F : List I) (tw : List Value) (g cap : Nat) (h0 : 0 < F.length) (hn : F.length ≤ 100) (hall : ∀ i ∈ F, fitsI i = true) : Ex.Meets Try.prog (list2 F tw g cap) := by
  intro W hpre
  have hs := seg_left (hpre.1 _ (List.mem_singleton_self _))
  refine (backW_met g cap F h0 (by omega) hall W ⟨fun p hp => by rcases List.mem_singleton.1 hp with rfl; exact hs, fun _ hp => (by cases hp), List.nodup_nil, fun _ _ _ hq => (by cases hq)⟩).mono ?_
  rintro e W' ⟨ns, he, h⟩
  exact ⟨ns, he, ⟨h.len, h.hyp, h.os, h.tape, h.output, h.size, h.old, h.nw, h.nodup⟩⟩

def i99 : I := ⟨99, 0, 0, 0, 0, 0⟩
def i98 : I := ⟨98, 0, 0, 0, 0, 0⟩
def tlI : List Value := i99.cells.toList ++ i98.cells.toList
def twU : List Value := [.int .u32 201, .int .u32 202]
def src2I : Cont := .obj (.cells #[.int .i64 99, .int .i64 0, .int .i64 0, .int .i64 0, .int .i64 0, .int .i64 0, .int .i64 98, .int .i64 0, .int .i64 0, .int .i64 0, .int .i64 0, .int .i64 0] 25 (0, 0))
def src2U : Cont := .obj (.cells #[.int .u32 201, .int .u32 202] 26 (0, 0))
def srcU : Cont := .obj (.cells #[.int .u32 7] 26 (0, 0))
def srcI : Cont := .obj (.cells #[.int .i64 0, .int .i64 0, .int .i64 0, .int .i64 0, .int .i64 0, .int .i64 0] 25 (0, 0))
def u7 : List Value := [.int .u32 7]

theorem obj_at {xs : Array Value} {t : TypeId} : ∀ (j : Nat) (u : Value), xs.toList[j]? = some u → (Cont.obj (.cells xs t (0, 0))).at (0 + j) = some u := fun j u hu => by rw [Nat.zero_add]; exact hu
def ones (l : List Value) : Bool := l.all fun u => u.oneCell'
theorem ones_of {l : List Value} (h : ones l = true) : ∀ u ∈ l, u.oneCell' = true := fun u hu => List.all_eq_true.1 h u hu

def slS (t : TypeId) (g m cap k : Nat) : Prop := ∀ W, (Ex.opV (Instr.sliceAt t (.slice (some ⟨g, 0, none⟩) m cap) none (some (.int .i64 (k : Nat))) none)).run Try.prog W = .ok (.value (.slice (some ⟨g, 0, none⟩) k cap)) W
theorem slS_I (g m cap k : Nat) (h : k ≤ cap) : slS 50 g m cap k := fun W => by
  obtain ⟨ii, z, hi, hz, hs, -⟩ := elemI.info
  exact Ex.slice_run elemI.under hi g m cap k h W
theorem slS_U (g m cap k : Nat) (h : k ≤ cap) : slS 49 g m cap k := fun W => by
  obtain ⟨ii, z, hi, hz, hs, -⟩ := elemW.info
  exact Ex.slice_run elemW.under hi g m cap k h W

theorem appI_met {v : Value} {use : List (Nat × Cont)} {n m s : Nat} {arr : Array Value} {xs news : List Value} (hv : (v = .slice none 0 0 ∧ n = 0 ∧ use = [] ∧ xs = []) ∨ ∃ g cap, v = .slice (some ⟨g, 0, none⟩) n cap ∧ use = [(g, .row 25 6 n cap xs)])
    (ha : arr.toList = news) (hl : news.length = m * 6) (hm : 0 < m) (h1 : ones news = true) (hn : n ≤ 1000) (hm2 : m ≤ 2) :
    Ex.OpMeets Try.prog (Ex.appSem 50 50 v (.slice (some ⟨s, 0, none⟩) m m)) (Ex.appC [(s, .obj (.cells arr 25 (0, 0)))] use 25 6 n m (xs ++ news)) :=
  Ex.app_met elemI hv hl hm (ones_of h1) (by simp only [maxLen]; omega) (by omega) (fun j u hu => obj_at j u (by rw [ha]; exact hu))
theorem appU_met {v : Value} {use : List (Nat × Cont)} {n m s : Nat} {arr : Array Value} {xs news : List Value} (hv : (v = .slice none 0 0 ∧ n = 0 ∧ use = [] ∧ xs = []) ∨ ∃ g cap, v = .slice (some ⟨g, 0, none⟩) n cap ∧ use = [(g, .row 26 1 n cap xs)])
    (ha : arr.toList = news) (hl : news.length = m * 1) (hm : 0 < m) (h1 : ones news = true) (hn : n ≤ 1000) (hm2 : m ≤ 2) :
    Ex.OpMeets Try.prog (Ex.appSem 49 49 v (.slice (some ⟨s, 0, none⟩) m m)) (Ex.appC [(s, .obj (.cells arr 26 (0, 0)))] use 26 1 n m (xs ++ news)) :=
  Ex.app_met elemW hv hl hm (ones_of h1) (by simp only [maxLen]; omega) (by omega) (fun j u hu => obj_at j u (by rw [ha]; exact hu))


noncomputable def ctxkeptZ (lp : List (Ex.Hist → Ex.LoopC)) : Ex.Ctx :=
  Ex.mkCtx [14, fWords, fList]
    [awC, fun h => Ex.plainC fWords #[.slice (some ⟨num h 0, 0, none⟩) 0 (num h 1)] (.tuple #[.slice none 0 0, .int .i64 0, .int .i64 0]), fun h => Ex.plainC fWords #[.slice (some ⟨num h 0, 0, none⟩) 0 (num h 1)] (.tuple #[.slice none 0 0, .int .i64 0, .int .i64 0]),
     fun h => Ex.plainC fList #[.slice (some ⟨num h 0, 0, none⟩) 0 (num h 1)] (.tuple #[.slice none 0 0, .int .i64 0, .int .i64 0]), fun h => Ex.plainC fList #[.slice (some ⟨num h 0, 0, none⟩) 0 (num h 1)] (.tuple #[.slice none 0 0, .int .i64 0, .int .i64 0])]
    [] [] [fun h => .slice (some ⟨num h 0, 0, none⟩) 0 (num h 1), fun h => .slice (some ⟨num h 0, 0, none⟩) 0 (num h 1), fun h => .slice (some ⟨num h 0, 0, none⟩) 0 (num h 1), fun h => .slice (some ⟨num h 0, 0, none⟩) 0 (num h 1)] [fK] lp [] [(fK, 56), (fK, 64), (fK, 125), (fK, 133)] [(fK, 52), (fK, 118), (fK, 121), (fK, 187)]
    [fun h => Ex.appC [(num h 0, src2I)] [] 25 6 0 2 ([] ++ tlI),
     fun h => Ex.appC [(num h 0, srcU)] [] 26 1 0 1 ([] ++ u7),
     fun h => Ex.appC [(num h 0, srcU)] [(num h 1, .row 26 1 (0 + 1) (num h 2) ([] ++ u7))] 26 1 (0 + 1) 1 (([] ++ u7) ++ u7),
     fun h => Ex.appC [(num h 0, srcU)] [(num h 1, .row 26 1 (0 + 1 + 1) (num h 2) (([] ++ u7) ++ u7))] 26 1 (0 + 1 + 1) 1 ((([] ++ u7) ++ u7) ++ u7),
     fun h => Ex.appC [(num h 0, srcU)] [(num h 1, .row 26 1 (0 + 1 + 1 + 1) (num h 2) ((([] ++ u7) ++ u7) ++ u7))] 26 1 (0 + 1 + 1 + 1) 1 (((([] ++ u7) ++ u7) ++ u7) ++ u7),
     fun h => Ex.appC [(num h 0, srcU)] [(num h 1, .row 26 1 (0 + 1 + 1 + 1 + 1) (num h 2) (((([] ++ u7) ++ u7) ++ u7) ++ u7))] 26 1 (0 + 1 + 1 + 1 + 1) 1 ((((([] ++ u7) ++ u7) ++ u7) ++ u7) ++ u7),
     fun h => Ex.appC [(num h 0, src2U)] [] 26 1 0 2 ([] ++ twU),
     fun h => Ex.appC [(num h 0, srcI)] [] 25 6 0 1 ([] ++ zeros6),
     fun h => Ex.appC [(num h 0, srcI)] [(num h 1, .row 25 6 (0 + 1) (num h 2) ([] ++ zeros6))] 25 6 (0 + 1) 1 (([] ++ zeros6) ++ zeros6),
     fun h => Ex.appC [(num h 0, srcI)] [(num h 1, .row 25 6 (0 + 1 + 1) (num h 2) (([] ++ zeros6) ++ zeros6))] 25 6 (0 + 1 + 1) 1 ((([] ++ zeros6) ++ zeros6) ++ zeros6),
     fun h => Ex.appC [(num h 0, srcI)] [(num h 1, .row 25 6 (0 + 1 + 1 + 1) (num h 2) ((([] ++ zeros6) ++ zeros6) ++ zeros6))] 25 6 (0 + 1 + 1 + 1) 1 (((([] ++ zeros6) ++ zeros6) ++ zeros6) ++ zeros6),
     fun h => Ex.appC [(num h 0, srcI)] [(num h 1, .row 25 6 (0 + 1 + 1 + 1 + 1) (num h 2) (((([] ++ zeros6) ++ zeros6) ++ zeros6) ++ zeros6))] 25 6 (0 + 1 + 1 + 1 + 1) 1 ((((([] ++ zeros6) ++ zeros6) ++ zeros6) ++ zeros6) ++ zeros6)]
theorem ctxkeptZ_holds {lp : List (Ex.Hist → Ex.LoopC)} (h : Ex.AllL Try.prog lp) : (ctxkeptZ lp).holds Try.prog :=
  Ex.mk_holds (Ex.cons_c awC_met (Ex.cons_c (fun _ => words_none _ _) (Ex.cons_c (fun _ => words_none _ _) (Ex.cons_c (fun _ => list_none _ _) (Ex.cons_c (fun _ => list_none _ _) Ex.nil_c))))) h

theorem keptZ_any (A : Option Addr) (c : Nat) (W : World) : Calls Try.prog fK #[.slice A 0 c] W fun e w' => e = .returned (.bool true) ∧ Below W.heap.size W w' := by
  exact Ex.calls_plain (S := ctxkeptZ []) (ctxkeptZ_holds Ex.nil_l) mixed 300 (Ex.traceC Try.prog (ctxkeptZ []) 300 fK #[.slice none 0 0] []) (.bool true)
    (fun ns _ => [(true, Ex.OpMeets Try.prog (Ex.appSem 50 50 (.slice none 0 0) (.slice (some ⟨ns 0, 0, none⟩) 2 2)) (Ex.appC [(ns 0, src2I)] [] 25 6 0 2 ([] ++ tlI))),
      (false, 0 + 2 ≤ ns 2),
      (true, slS 50 (ns 1) 2 (ns 2) 0),
      (true, slS 50 (ns 1) 2 (ns 2) 0),
      (true, Ex.OpMeets Try.prog (Ex.appSem 49 49 (.slice none 0 0) (.slice (some ⟨ns 3, 0, none⟩) 1 1)) (Ex.appC [(ns 3, srcU)] [] 26 1 0 1 ([] ++ u7))),
      (false, 0 + 1 ≤ ns 5),
      (true, Ex.OpMeets Try.prog (Ex.appSem 49 49 ((.slice (some ⟨ns 4, 0, none⟩) (0 + 1) (ns 5))) (.slice (some ⟨ns 6, 0, none⟩) 1 1)) (Ex.appC [(ns 6, srcU)] [(ns 4, .row 26 1 (0 + 1) (ns 5) ([] ++ u7))] 26 1 (0 + 1) 1 (([] ++ u7) ++ u7))),
      (false, (0 + 1) + 1 ≤ ns 8),
      (true, Ex.OpMeets Try.prog (Ex.appSem 49 49 ((.slice (some ⟨ns 7, 0, none⟩) (0 + 1 + 1) (ns 8))) (.slice (some ⟨ns 9, 0, none⟩) 1 1)) (Ex.appC [(ns 9, srcU)] [(ns 7, .row 26 1 (0 + 1 + 1) (ns 8) (([] ++ u7) ++ u7))] 26 1 (0 + 1 + 1) 1 ((([] ++ u7) ++ u7) ++ u7))),
      (false, (0 + 1 + 1) + 1 ≤ ns 11),
      (true, Ex.OpMeets Try.prog (Ex.appSem 49 49 ((.slice (some ⟨ns 10, 0, none⟩) (0 + 1 + 1 + 1) (ns 11))) (.slice (some ⟨ns 12, 0, none⟩) 1 1)) (Ex.appC [(ns 12, srcU)] [(ns 10, .row 26 1 (0 + 1 + 1 + 1) (ns 11) ((([] ++ u7) ++ u7) ++ u7))] 26 1 (0 + 1 + 1 + 1) 1 (((([] ++ u7) ++ u7) ++ u7) ++ u7))),
      (false, (0 + 1 + 1 + 1) + 1 ≤ ns 14),
      (true, Ex.OpMeets Try.prog (Ex.appSem 49 49 ((.slice (some ⟨ns 13, 0, none⟩) (0 + 1 + 1 + 1 + 1) (ns 14))) (.slice (some ⟨ns 15, 0, none⟩) 1 1)) (Ex.appC [(ns 15, srcU)] [(ns 13, .row 26 1 (0 + 1 + 1 + 1 + 1) (ns 14) (((([] ++ u7) ++ u7) ++ u7) ++ u7))] 26 1 (0 + 1 + 1 + 1 + 1) 1 ((((([] ++ u7) ++ u7) ++ u7) ++ u7) ++ u7))),
      (false, (0 + 1 + 1 + 1 + 1) + 1 ≤ ns 17),
      (true, Ex.OpMeets Try.prog (Ex.appSem 49 49 (.slice none 0 0) (.slice (some ⟨ns 18, 0, none⟩) 2 2)) (Ex.appC [(ns 18, src2U)] [] 26 1 0 2 ([] ++ twU))),
      (false, 0 + 2 ≤ ns 20),
      (true, slS 49 (ns 19) 2 (ns 20) 0),
      (true, slS 49 (ns 19) 2 (ns 20) 0),
      (true, Ex.OpMeets Try.prog (Ex.appSem 50 50 (.slice none 0 0) (.slice (some ⟨ns 21, 0, none⟩) 1 1)) (Ex.appC [(ns 21, srcI)] [] 25 6 0 1 ([] ++ zeros6))),
      (false, 0 + 1 ≤ ns 23),
      (true, Ex.OpMeets Try.prog (Ex.appSem 50 50 ((.slice (some ⟨ns 22, 0, none⟩) (0 + 1) (ns 23))) (.slice (some ⟨ns 24, 0, none⟩) 1 1)) (Ex.appC [(ns 24, srcI)] [(ns 22, .row 25 6 (0 + 1) (ns 23) ([] ++ zeros6))] 25 6 (0 + 1) 1 (([] ++ zeros6) ++ zeros6))),
      (false, (0 + 1) + 1 ≤ ns 26),
      (true, Ex.OpMeets Try.prog (Ex.appSem 50 50 ((.slice (some ⟨ns 25, 0, none⟩) (0 + 1 + 1) (ns 26))) (.slice (some ⟨ns 27, 0, none⟩) 1 1)) (Ex.appC [(ns 27, srcI)] [(ns 25, .row 25 6 (0 + 1 + 1) (ns 26) (([] ++ zeros6) ++ zeros6))] 25 6 (0 + 1 + 1) 1 ((([] ++ zeros6) ++ zeros6) ++ zeros6))),
      (false, (0 + 1 + 1) + 1 ≤ ns 29),
      (true, Ex.OpMeets Try.prog (Ex.appSem 50 50 ((.slice (some ⟨ns 28, 0, none⟩) (0 + 1 + 1 + 1) (ns 29))) (.slice (some ⟨ns 30, 0, none⟩) 1 1)) (Ex.appC [(ns 30, srcI)] [(ns 28, .row 25 6 (0 + 1 + 1 + 1) (ns 29) ((([] ++ zeros6) ++ zeros6) ++ zeros6))] 25 6 (0 + 1 + 1 + 1) 1 (((([] ++ zeros6) ++ zeros6) ++ zeros6) ++ zeros6))),
      (false, (0 + 1 + 1 + 1) + 1 ≤ ns 32),
      (true, Ex.OpMeets Try.prog (Ex.appSem 50 50 ((.slice (some ⟨ns 31, 0, none⟩) (0 + 1 + 1 + 1 + 1) (ns 32))) (.slice (some ⟨ns 33, 0, none⟩) 1 1)) (Ex.appC [(ns 33, srcI)] [(ns 31, .row 25 6 (0 + 1 + 1 + 1 + 1) (ns 32) (((([] ++ zeros6) ++ zeros6) ++ zeros6) ++ zeros6))] 25 6 (0 + 1 + 1 + 1 + 1) 1 ((((([] ++ zeros6) ++ zeros6) ++ zeros6) ++ zeros6) ++ zeros6))),
      (false, (0 + 1 + 1 + 1 + 1) + 1 ≤ ns 35)])
    (fun ns ls => by kernel_rfl) (fun ns ls => by kernel_rfl) (fun ns ls => ⟨appI_met (.inl ⟨rfl, rfl, rfl, rfl⟩) rfl rfl (by omega) rfl (by omega) (by omega), fun _ => ⟨slS_I _ _ _ _ (by omega), ⟨slS_I _ _ _ _ (by omega), ⟨appU_met (.inl ⟨rfl, rfl, rfl, rfl⟩) rfl rfl (by omega) rfl (by omega) (by omega), fun _ => ⟨appU_met (.inr ⟨_, _, rfl, rfl⟩) rfl rfl (by omega) rfl (by omega) (by omega), fun _ => ⟨appU_met (.inr ⟨_, _, rfl, rfl⟩) rfl rfl (by omega) rfl (by omega) (by omega), fun _ => ⟨appU_met (.inr ⟨_, _, rfl, rfl⟩) rfl rfl (by omega) rfl (by omega) (by omega), fun _ => ⟨appU_met (.inr ⟨_, _, rfl, rfl⟩) rfl rfl (by omega) rfl (by omega) (by omega), fun _ => ⟨appU_met (.inl ⟨rfl, rfl, rfl, rfl⟩) rfl rfl (by omega) rfl (by omega) (by omega), fun _ => ⟨slS_U _ _ _ _ (by omega), ⟨slS_U _ _ _ _ (by omega), ⟨appI_met (.inl ⟨rfl, rfl, rfl, rfl⟩) rfl rfl (by omega) rfl (by omega) (by omega), fun _ => ⟨appI_met (.inr ⟨_, _, rfl, rfl⟩) rfl rfl (by omega) rfl (by omega) (by omega), fun _ => ⟨appI_met (.inr ⟨_, _, rfl, rfl⟩) rfl rfl (by omega) rfl (by omega) (by omega), fun _ => ⟨appI_met (.inr ⟨_, _, rfl, rfl⟩) rfl rfl (by omega) rfl (by omega) (by omega), fun _ => ⟨appI_met (.inr ⟨_, _, rfl, rfl⟩) rfl rfl (by omega) rfl (by omega) (by omega), fun _ => trivial⟩⟩⟩⟩⟩⟩⟩⟩⟩⟩⟩⟩⟩⟩⟩⟩) (Ex.rep_start W)


noncomputable def ctxkeptN (lp : List (Ex.Hist → Ex.LoopC)) : Ex.Ctx :=
  Ex.mkCtx [14, fWords, fList]
    [awC, fun h => Ex.plainC fWords #[.slice (some ⟨num h 0, 0, none⟩) 0 (num h 1)] (.tuple #[.slice none 0 0, .int .i64 0, .int .i64 0]), fun h => Ex.plainC fWords #[.slice (some ⟨num h 0, 0, none⟩) 0 (num h 1)] (.tuple #[.slice none 0 0, .int .i64 0, .int .i64 0]),
     fun h => Ex.plainC fList #[.slice (some ⟨num h 0, 0, none⟩) 0 (num h 1)] (.tuple #[.slice none 0 0, .int .i64 0, .int .i64 0]), fun h => Ex.plainC fList #[.slice (some ⟨num h 0, 0, none⟩) 0 (num h 1)] (.tuple #[.slice none 0 0, .int .i64 0, .int .i64 0])]
    [] [] [fun h => .slice (some ⟨num h 0, 0, none⟩) 0 (num h 1), fun h => .slice (some ⟨num h 0, 0, none⟩) 0 (num h 1), fun h => .slice (some ⟨num h 0, 0, none⟩) 0 (num h 1), fun h => .slice (some ⟨num h 0, 0, none⟩) 0 (num h 1)] [fK] lp [] [(fK, 56), (fK, 64), (fK, 125), (fK, 133)] [(fK, 52), (fK, 118), (fK, 121), (fK, 187)]
    [fun h => Ex.appC [(num h 0, src2I)] [] 25 6 0 2 ([] ++ tlI),
     fun h => Ex.appC [(num h 0, srcU)] [] 26 1 0 1 ([] ++ u7),
     fun h => Ex.appC [(num h 0, srcU)] [(num h 1, .row 26 1 (0 + 1) (num h 2) ([] ++ u7))] 26 1 (0 + 1) 1 (([] ++ u7) ++ u7),
     fun h => Ex.appC [(num h 0, srcU)] [(num h 1, .row 26 1 (0 + 1 + 1) (num h 2) (([] ++ u7) ++ u7))] 26 1 (0 + 1 + 1) 1 ((([] ++ u7) ++ u7) ++ u7),
     fun h => Ex.appC [(num h 0, srcU)] [(num h 1, .row 26 1 (0 + 1 + 1 + 1) (num h 2) ((([] ++ u7) ++ u7) ++ u7))] 26 1 (0 + 1 + 1 + 1) 1 (((([] ++ u7) ++ u7) ++ u7) ++ u7),
     fun h => Ex.appC [(num h 0, srcU)] [(num h 1, .row 26 1 (0 + 1 + 1 + 1 + 1) (num h 2) (((([] ++ u7) ++ u7) ++ u7) ++ u7))] 26 1 (0 + 1 + 1 + 1 + 1) 1 ((((([] ++ u7) ++ u7) ++ u7) ++ u7) ++ u7),
     fun h => Ex.appC [(num h 0, src2U)] [] 26 1 0 2 ([] ++ twU),
     fun h => Ex.appC [(num h 0, srcI)] [] 25 6 0 1 ([] ++ zeros6),
     fun h => Ex.appC [(num h 0, srcI)] [(num h 1, .row 25 6 (0 + 1) (num h 2) ([] ++ zeros6))] 25 6 (0 + 1) 1 (([] ++ zeros6) ++ zeros6),
     fun h => Ex.appC [(num h 0, srcI)] [(num h 1, .row 25 6 (0 + 1 + 1) (num h 2) (([] ++ zeros6) ++ zeros6))] 25 6 (0 + 1 + 1) 1 ((([] ++ zeros6) ++ zeros6) ++ zeros6),
     fun h => Ex.appC [(num h 0, srcI)] [(num h 1, .row 25 6 (0 + 1 + 1 + 1) (num h 2) ((([] ++ zeros6) ++ zeros6) ++ zeros6))] 25 6 (0 + 1 + 1 + 1) 1 (((([] ++ zeros6) ++ zeros6) ++ zeros6) ++ zeros6),
     fun h => Ex.appC [(num h 0, srcI)] [(num h 1, .row 25 6 (0 + 1 + 1 + 1 + 1) (num h 2) (((([] ++ zeros6) ++ zeros6) ++ zeros6) ++ zeros6))] 25 6 (0 + 1 + 1 + 1 + 1) 1 ((((([] ++ zeros6) ++ zeros6) ++ zeros6) ++ zeros6) ++ zeros6)]
theorem ctxkeptN_holds {lp : List (Ex.Hist → Ex.LoopC)} (h : Ex.AllL Try.prog lp) : (ctxkeptN lp).holds Try.prog :=
  Ex.mk_holds (Ex.cons_c awC_met (Ex.cons_c (fun _ => words_none _ _) (Ex.cons_c (fun _ => words_none _ _) (Ex.cons_c (fun _ => list_none _ _) (Ex.cons_c (fun _ => list_none _ _) Ex.nil_c))))) h

theorem keptN_any (b o c : Nat) (l : List I) (hfit : ∀ i ∈ l, i.fit) (h : keepF l 100 = []) (W : World) (hs : (Cont.seg o (insCells l)).sat W.heap[b]?) : Calls Try.prog fK #[.slice (some ⟨b, o, none⟩) l.length c] W fun e w' => e = .returned (.bool true) ∧ Below W.heap.size W w' := by
  exact Ex.calls_plain (S := ctxkeptN [fun _ => filtNil b o c l]) (ctxkeptN_holds (Ex.cons_l (fun _ => filtNil_met b o c l hfit h) Ex.nil_l)) mixed 300 (Ex.traceC Try.prog (ctxkeptN [fun _ => filtNil 1 0 7 [i0]]) 300 fK #[.slice (some ⟨1, 0, none⟩) 1 7] [segB 1 0 [i0]]) (.bool true)
    (fun ns _ => [(true, Ex.OpMeets Try.prog (Ex.appSem 50 50 (.slice none 0 0) (.slice (some ⟨ns 1, 0, none⟩) 2 2)) (Ex.appC [(ns 1, src2I)] [] 25 6 0 2 ([] ++ tlI))),
      (false, 0 + 2 ≤ ns 3),
      (true, slS 50 (ns 2) 2 (ns 3) 0),
      (true, slS 50 (ns 2) 2 (ns 3) 0),
      (true, Ex.OpMeets Try.prog (Ex.appSem 49 49 (.slice none 0 0) (.slice (some ⟨ns 4, 0, none⟩) 1 1)) (Ex.appC [(ns 4, srcU)] [] 26 1 0 1 ([] ++ u7))),
      (false, 0 + 1 ≤ ns 6),
      (true, Ex.OpMeets Try.prog (Ex.appSem 49 49 ((.slice (some ⟨ns 5, 0, none⟩) (0 + 1) (ns 6))) (.slice (some ⟨ns 7, 0, none⟩) 1 1)) (Ex.appC [(ns 7, srcU)] [(ns 5, .row 26 1 (0 + 1) (ns 6) ([] ++ u7))] 26 1 (0 + 1) 1 (([] ++ u7) ++ u7))),
      (false, (0 + 1) + 1 ≤ ns 9),
      (true, Ex.OpMeets Try.prog (Ex.appSem 49 49 ((.slice (some ⟨ns 8, 0, none⟩) (0 + 1 + 1) (ns 9))) (.slice (some ⟨ns 10, 0, none⟩) 1 1)) (Ex.appC [(ns 10, srcU)] [(ns 8, .row 26 1 (0 + 1 + 1) (ns 9) (([] ++ u7) ++ u7))] 26 1 (0 + 1 + 1) 1 ((([] ++ u7) ++ u7) ++ u7))),
      (false, (0 + 1 + 1) + 1 ≤ ns 12),
      (true, Ex.OpMeets Try.prog (Ex.appSem 49 49 ((.slice (some ⟨ns 11, 0, none⟩) (0 + 1 + 1 + 1) (ns 12))) (.slice (some ⟨ns 13, 0, none⟩) 1 1)) (Ex.appC [(ns 13, srcU)] [(ns 11, .row 26 1 (0 + 1 + 1 + 1) (ns 12) ((([] ++ u7) ++ u7) ++ u7))] 26 1 (0 + 1 + 1 + 1) 1 (((([] ++ u7) ++ u7) ++ u7) ++ u7))),
      (false, (0 + 1 + 1 + 1) + 1 ≤ ns 15),
      (true, Ex.OpMeets Try.prog (Ex.appSem 49 49 ((.slice (some ⟨ns 14, 0, none⟩) (0 + 1 + 1 + 1 + 1) (ns 15))) (.slice (some ⟨ns 16, 0, none⟩) 1 1)) (Ex.appC [(ns 16, srcU)] [(ns 14, .row 26 1 (0 + 1 + 1 + 1 + 1) (ns 15) (((([] ++ u7) ++ u7) ++ u7) ++ u7))] 26 1 (0 + 1 + 1 + 1 + 1) 1 ((((([] ++ u7) ++ u7) ++ u7) ++ u7) ++ u7))),
      (false, (0 + 1 + 1 + 1 + 1) + 1 ≤ ns 18),
      (true, Ex.OpMeets Try.prog (Ex.appSem 49 49 (.slice none 0 0) (.slice (some ⟨ns 19, 0, none⟩) 2 2)) (Ex.appC [(ns 19, src2U)] [] 26 1 0 2 ([] ++ twU))),
      (false, 0 + 2 ≤ ns 21),
      (true, slS 49 (ns 20) 2 (ns 21) 0),
      (true, slS 49 (ns 20) 2 (ns 21) 0),
      (true, Ex.OpMeets Try.prog (Ex.appSem 50 50 (.slice none 0 0) (.slice (some ⟨ns 22, 0, none⟩) 1 1)) (Ex.appC [(ns 22, srcI)] [] 25 6 0 1 ([] ++ zeros6))),
      (false, 0 + 1 ≤ ns 24),
      (true, Ex.OpMeets Try.prog (Ex.appSem 50 50 ((.slice (some ⟨ns 23, 0, none⟩) (0 + 1) (ns 24))) (.slice (some ⟨ns 25, 0, none⟩) 1 1)) (Ex.appC [(ns 25, srcI)] [(ns 23, .row 25 6 (0 + 1) (ns 24) ([] ++ zeros6))] 25 6 (0 + 1) 1 (([] ++ zeros6) ++ zeros6))),
      (false, (0 + 1) + 1 ≤ ns 27),
      (true, Ex.OpMeets Try.prog (Ex.appSem 50 50 ((.slice (some ⟨ns 26, 0, none⟩) (0 + 1 + 1) (ns 27))) (.slice (some ⟨ns 28, 0, none⟩) 1 1)) (Ex.appC [(ns 28, srcI)] [(ns 26, .row 25 6 (0 + 1 + 1) (ns 27) (([] ++ zeros6) ++ zeros6))] 25 6 (0 + 1 + 1) 1 ((([] ++ zeros6) ++ zeros6) ++ zeros6))),
      (false, (0 + 1 + 1) + 1 ≤ ns 30),
      (true, Ex.OpMeets Try.prog (Ex.appSem 50 50 ((.slice (some ⟨ns 29, 0, none⟩) (0 + 1 + 1 + 1) (ns 30))) (.slice (some ⟨ns 31, 0, none⟩) 1 1)) (Ex.appC [(ns 31, srcI)] [(ns 29, .row 25 6 (0 + 1 + 1 + 1) (ns 30) ((([] ++ zeros6) ++ zeros6) ++ zeros6))] 25 6 (0 + 1 + 1 + 1) 1 (((([] ++ zeros6) ++ zeros6) ++ zeros6) ++ zeros6))),
      (false, (0 + 1 + 1 + 1) + 1 ≤ ns 33),
      (true, Ex.OpMeets Try.prog (Ex.appSem 50 50 ((.slice (some ⟨ns 32, 0, none⟩) (0 + 1 + 1 + 1 + 1) (ns 33))) (.slice (some ⟨ns 34, 0, none⟩) 1 1)) (Ex.appC [(ns 34, srcI)] [(ns 32, .row 25 6 (0 + 1 + 1 + 1 + 1) (ns 33) (((([] ++ zeros6) ++ zeros6) ++ zeros6) ++ zeros6))] 25 6 (0 + 1 + 1 + 1 + 1) 1 ((((([] ++ zeros6) ++ zeros6) ++ zeros6) ++ zeros6) ++ zeros6))),
      (false, (0 + 1 + 1 + 1 + 1) + 1 ≤ ns 36)])
    (fun ns ls => by kernel_rfl) (fun ns ls => by kernel_rfl) (fun ns ls => ⟨appI_met (.inl ⟨rfl, rfl, rfl, rfl⟩) rfl rfl (by omega) rfl (by omega) (by omega), fun _ => ⟨slS_I _ _ _ _ (by omega), ⟨slS_I _ _ _ _ (by omega), ⟨appU_met (.inl ⟨rfl, rfl, rfl, rfl⟩) rfl rfl (by omega) rfl (by omega) (by omega), fun _ => ⟨appU_met (.inr ⟨_, _, rfl, rfl⟩) rfl rfl (by omega) rfl (by omega) (by omega), fun _ => ⟨appU_met (.inr ⟨_, _, rfl, rfl⟩) rfl rfl (by omega) rfl (by omega) (by omega), fun _ => ⟨appU_met (.inr ⟨_, _, rfl, rfl⟩) rfl rfl (by omega) rfl (by omega) (by omega), fun _ => ⟨appU_met (.inr ⟨_, _, rfl, rfl⟩) rfl rfl (by omega) rfl (by omega) (by omega), fun _ => ⟨appU_met (.inl ⟨rfl, rfl, rfl, rfl⟩) rfl rfl (by omega) rfl (by omega) (by omega), fun _ => ⟨slS_U _ _ _ _ (by omega), ⟨slS_U _ _ _ _ (by omega), ⟨appI_met (.inl ⟨rfl, rfl, rfl, rfl⟩) rfl rfl (by omega) rfl (by omega) (by omega), fun _ => ⟨appI_met (.inr ⟨_, _, rfl, rfl⟩) rfl rfl (by omega) rfl (by omega) (by omega), fun _ => ⟨appI_met (.inr ⟨_, _, rfl, rfl⟩) rfl rfl (by omega) rfl (by omega) (by omega), fun _ => ⟨appI_met (.inr ⟨_, _, rfl, rfl⟩) rfl rfl (by omega) rfl (by omega) (by omega), fun _ => ⟨appI_met (.inr ⟨_, _, rfl, rfl⟩) rfl rfl (by omega) rfl (by omega) (by omega), fun _ => trivial⟩⟩⟩⟩⟩⟩⟩⟩⟩⟩⟩⟩⟩⟩⟩⟩) (seg_rep (l := [(b, .seg o (insCells l))]) (fun p hp => by rcases List.mem_singleton.1 hp with rfl; exact hs))


theorem at_99 (F : List I) (m cap : Nat) : (Cont.row 25 6 m cap (insCells F ++ tlI)).at (0 + F.length * 6) = some (.int .i64 99) := by
  simp only [Cont.at, Nat.zero_add]
  rw [List.getElem?_append_right (by rw [insCells_len]; omega), insCells_len, Nat.sub_self]
  rfl
theorem at_98 (F : List I) (m cap : Nat) : (Cont.row 25 6 m cap (insCells F ++ tlI)).at (0 + (F.length + 1) * 6) = some (.int .i64 98) := by
  simp only [Cont.at, Nat.zero_add]
  rw [List.getElem?_append_right (by rw [insCells_len]; omega), insCells_len, show (F.length + 1) * 6 - F.length * 6 = 6 by omega]
  rfl
theorem wordsOf_len (F : List I) : (wordsOf F).length = F.length := by simp [wordsOf]
theorem at_201 (F : List I) (m cap : Nat) : (Cont.row 26 1 m cap (wordsOf F ++ twU)).at (0 + F.length * 1) = some (.int .u32 201) := by
  simp only [Cont.at, Nat.zero_add]
  rw [List.getElem?_append_right (by rw [wordsOf_len]; omega), wordsOf_len, show F.length * 1 - F.length = 0 by omega]
  rfl
theorem at_202 (F : List I) (m cap : Nat) : (Cont.row 26 1 m cap (wordsOf F ++ twU)).at (0 + (F.length + 1) * 1) = some (.int .u32 202) := by
  simp only [Cont.at, Nat.zero_add]
  rw [List.getElem?_append_right (by rw [wordsOf_len]; omega), wordsOf_len, show (F.length + 1) * 1 - F.length = 1 by omega]
  rfl
theorem five_eq (F : List I) (hn : F.length ≤ 100) : Value.bool ((((F.length + 1 + 1 + 1 + 1 + 1) : Nat) : Int) == IntKind.i64.wrap ((F.length : Int) + 5)) = .bool true := by
  rw [IntWalk.i64_in _ (by omega), show (((F.length + 1 + 1 + 1 + 1 + 1) : Nat) : Int) = (F.length : Int) + 5 by omega, beq_self_eq_true]

noncomputable def ctxP (b o c : Nat) (l F : List I) : Ex.Ctx :=
  Ex.mkCtx [14, fWords, fList]
    [awC, fun h => words2 F tlI (num h 0) (num h 1), fun h => words2 F tlI (num h 2) (num h 3), fun h => list2 F twU (num h 0) (num h 1), fun h => list2 F twU (num h 2) (num h 3)]
    [(fK, 79), (fK, 85), (fK, 98), (fK, 148), (fK, 154), (fK, 166), (fK, 219), (fK, 225)] [(fK, 92), (fK, 101), (fK, 160), (fK, 168)]
    [fun h => .slice (some ⟨num h 0, 0, none⟩) F.length (num h 1), fun h => .slice (some ⟨num h 2, 0, none⟩) F.length (num h 3), bV false, bV false, fun h => .pointer (some ⟨num h 4, 0 + F.length * 6, none⟩), fun _ => .int .i64 99, fun _ => .int .i64 ((F.length + 1 : Nat) : Int), fun h => .pointer (some ⟨num h 4, 0 + (F.length + 1) * 6, none⟩), fun _ => .int .i64 98, fun h => .slice (some ⟨num h 0, 0, none⟩) F.length (num h 1), fun h => .slice (some ⟨num h 2, 0, none⟩) F.length (num h 3), bV false, bV false, fun h => .pointer (some ⟨num h 4, 0 + F.length * 1, none⟩), fun _ => .int .u32 201, fun _ => .int .i64 ((F.length + 1 : Nat) : Int), fun h => .pointer (some ⟨num h 4, 0 + (F.length + 1) * 1, none⟩), fun _ => .int .u32 202, bV true, bV true] [fK]
    [fun _ => filtRow b o c l F,
     fun h => zeroA (.slice (some ⟨num h 4, 0, none⟩) (F.length + 2) (num h 5)) F.length (num h 2) (num h 3) (.slice (some ⟨num h 0, 0, none⟩) (F.length) (num h 1)) (wordsOf F),
     fun _ => Ex.unroll,
     fun h => zeroC (.slice (some ⟨num h 27, 0, none⟩) (F.length + 2) (num h 28)) F.length (.slice (some ⟨num h 7, 0, none⟩) ((F.length + 1 + 1 + 1 + 1 + 1)) (num h 8)) (.slice (some ⟨num h 4, 0, none⟩) (F.length + 2) (num h 5)) (num h 2) (num h 3) (.slice (some ⟨num h 0, 0, none⟩) (F.length) (num h 1)) (insCells F),
     fun _ => Ex.unroll,
     fun h => cmpD F F.length (num h 43) (num h 44) (num h 20) (num h 21) (num h 16) (num h 17) (.slice (some ⟨num h 23, 0, none⟩) ((F.length + 1 + 1 + 1 + 1 + 1)) (num h 24)) (.slice (some ⟨num h 0, 0, none⟩) ((F.length + 1 + 1 + 1 + 1 + 1)) (num h 1)) tlI twU]
    [] [(fK, 56), (fK, 64), (fK, 90), (fK, 99), (fK, 125), (fK, 133), (fK, 159), (fK, 167)] [(fK, 52), (fK, 118), (fK, 121), (fK, 187)]
    [fun h => Ex.appC [(num h 0, src2I)] [(num h 1, .row 25 6 F.length (num h 2) (insCells F))] 25 6 F.length 2 (insCells F ++ tlI),
     fun h => Ex.appC [(num h 0, srcU)] [(num h 4, .row 26 1 F.length (num h 5) (lst h 1))] 26 1 F.length 1 ((lst h 1) ++ u7),
     fun h => Ex.appC [(num h 0, srcU)] [(num h 1, .row 26 1 (F.length + 1) (num h 2) ((lst h 4) ++ u7))] 26 1 (F.length + 1) 1 (((lst h 4) ++ u7) ++ u7),
     fun h => Ex.appC [(num h 0, srcU)] [(num h 1, .row 26 1 (F.length + 1 + 1) (num h 2) (((lst h 7) ++ u7) ++ u7))] 26 1 (F.length + 1 + 1) 1 ((((lst h 7) ++ u7) ++ u7) ++ u7),
     fun h => Ex.appC [(num h 0, srcU)] [(num h 1, .row 26 1 (F.length + 1 + 1 + 1) (num h 2) ((((lst h 10) ++ u7) ++ u7) ++ u7))] 26 1 (F.length + 1 + 1 + 1) 1 (((((lst h 10) ++ u7) ++ u7) ++ u7) ++ u7),
     fun h => Ex.appC [(num h 0, srcU)] [(num h 1, .row 26 1 (F.length + 1 + 1 + 1 + 1) (num h 2) (((((lst h 13) ++ u7) ++ u7) ++ u7) ++ u7))] 26 1 (F.length + 1 + 1 + 1 + 1) 1 ((((((lst h 13) ++ u7) ++ u7) ++ u7) ++ u7) ++ u7),
     fun h => Ex.appC [(num h 0, src2U)] [(num h 17, .row 26 1 F.length (num h 18) (wordsOf F))] 26 1 F.length 2 (wordsOf F ++ twU),
     fun h => Ex.appC [(num h 0, srcI)] [(num h 4, .row 25 6 F.length (num h 5) (lst h 1))] 25 6 F.length 1 ((lst h 1) ++ zeros6),
     fun h => Ex.appC [(num h 0, srcI)] [(num h 1, .row 25 6 (F.length + 1) (num h 2) ((lst h 4) ++ zeros6))] 25 6 (F.length + 1) 1 (((lst h 4) ++ zeros6) ++ zeros6),
     fun h => Ex.appC [(num h 0, srcI)] [(num h 1, .row 25 6 (F.length + 1 + 1) (num h 2) (((lst h 7) ++ zeros6) ++ zeros6))] 25 6 (F.length + 1 + 1) 1 ((((lst h 7) ++ zeros6) ++ zeros6) ++ zeros6),
     fun h => Ex.appC [(num h 0, srcI)] [(num h 1, .row 25 6 (F.length + 1 + 1 + 1) (num h 2) ((((lst h 10) ++ zeros6) ++ zeros6) ++ zeros6))] 25 6 (F.length + 1 + 1 + 1) 1 (((((lst h 10) ++ zeros6) ++ zeros6) ++ zeros6) ++ zeros6),
     fun h => Ex.appC [(num h 0, srcI)] [(num h 1, .row 25 6 (F.length + 1 + 1 + 1 + 1) (num h 2) (((((lst h 13) ++ zeros6) ++ zeros6) ++ zeros6) ++ zeros6))] 25 6 (F.length + 1 + 1 + 1 + 1) 1 ((((((lst h 13) ++ zeros6) ++ zeros6) ++ zeros6) ++ zeros6) ++ zeros6)]
theorem ctxP_holds (b o c : Nat) (l F : List I) (hfit : ∀ i ∈ l, i.fit) (hF : F = keepF l 100) (h0 : 0 < F.length) (hn : F.length ≤ 100) (hall : ∀ i ∈ F, fitsI i = true) (hff : ∀ i ∈ F, i.fit) : (ctxP b o c l F).holds Try.prog :=
  Ex.mk_holds (Ex.cons_c awC_met (Ex.cons_c (fun _ => words2_met F _ _ _ h0 hn hff hall) (Ex.cons_c (fun _ => words2_met F _ _ _ h0 hn hff hall) (Ex.cons_c (fun _ => list2_met F _ _ _ h0 hn hall) (Ex.cons_c (fun _ => list2_met F _ _ _ h0 hn hall) Ex.nil_c)))))
    (Ex.cons_l (fun _ => filtRow_met b o c l F hfit hF h0) (Ex.cons_l (fun _ => zeroA_met _ _ _ _ _ _ hn) (Ex.cons_l (fun _ => Ex.unroll_met) (Ex.cons_l (fun _ => zeroC_met _ _ _ _ _ _ _ _ hn) (Ex.cons_l (fun _ => Ex.unroll_met) (Ex.cons_l (fun _ => cmpD_met F _ _ _ _ _ _ _ _ _ _ _ rfl hn hall) Ex.nil_l))))))

set_option maxRecDepth 20000 in
theorem keptP_any (b o c : Nat) (l F : List I) (hfit : ∀ i ∈ l, i.fit) (hF : F = keepF l 100) (h0 : 0 < F.length) (hn : F.length ≤ 100) (hall : ∀ i ∈ F, fitsI i = true) (hff : ∀ i ∈ F, i.fit) (W : World) (hs : (Cont.seg o (insCells l)).sat W.heap[b]?) :
    Calls Try.prog fK #[.slice (some ⟨b, o, none⟩) l.length c] W fun e w' => e = .returned (.bool true) ∧ Below W.heap.size W w' := by
  have HS := ctxP_holds b o c l F hfit hF h0 hn hall hff
  clear hF hfit hff
  exact Ex.calls_plain (S := ctxP b o c l F) HS mixed 300 (Ex.traceC Try.prog (ctxP 1 0 7 [i0] [i0]) 300 fK #[.slice (some ⟨1, 0, none⟩) 1 7] [segB 1 0 [i0]]) (.bool true)
    (fun ns ls => [(false, F.length ≤ ns 1),
      (true, Ex.OpMeets Try.prog (Ex.appSem 50 50 (.slice (some ⟨ns 0, 0, none⟩) F.length (ns 1)) (.slice (some ⟨ns 3, 0, none⟩) 2 2)) (Ex.appC [(ns 3, src2I)] [(ns 0, .row 25 6 F.length (ns 1) (insCells F))] 25 6 F.length 2 (insCells F ++ tlI))),
      (false, F.length + 2 ≤ ns 5),
      (true, slS 50 (ns 4) (F.length + 2) (ns 5) F.length),
      (false, F.length ≤ ns 7),
      (true, slS 50 (ns 4) (F.length + 2) (ns 5) F.length),
      (false, F.length ≤ ns 9),
      (true, Value.bool (!((F.length : Int) == (F.length : Int))) = .bool false),
      (true, Value.bool (!((F.length : Int) == (F.length : Int))) = .bool false),
      (true, ixI (ns 4) (F.length + 2) (ns 5) F.length),
      (true, (Cont.row 25 6 (F.length + 2) (ns 5) (insCells F ++ tlI)).at (0 + F.length * 6) = some (.int .i64 99)),
      (true, Value.int .i64 (IntKind.i64.wrap ((F.length : Int) + 1)) = .int .i64 ((F.length + 1 : Nat) : Int)),
      (true, ixI (ns 4) (F.length + 2) (ns 5) (F.length + 1)),
      (true, (Cont.row 25 6 (F.length + 2) (ns 5) (insCells F ++ tlI)).at (0 + (F.length + 1) * 6) = some (.int .i64 98)),
      (false, True),
      (true, Ex.OpMeets Try.prog (Ex.appSem 49 49 (.slice (some ⟨ns 6, 0, none⟩) F.length (ns 7)) (.slice (some ⟨ns 12, 0, none⟩) 1 1)) (Ex.appC [(ns 12, srcU)] [(ns 6, .row 26 1 F.length (ns 7) (ls 10))] 26 1 F.length 1 ((ls 10) ++ u7))),
      (false, F.length + 1 ≤ ns 14),
      (true, Ex.OpMeets Try.prog (Ex.appSem 49 49 (.slice (some ⟨ns 13, 0, none⟩) (F.length + 1) (ns 14)) (.slice (some ⟨ns 15, 0, none⟩) 1 1)) (Ex.appC [(ns 15, srcU)] [(ns 13, .row 26 1 (F.length + 1) (ns 14) ((ls 10) ++ u7))] 26 1 (F.length + 1) 1 (((ls 10) ++ u7) ++ u7))),
      (false, (F.length + 1) + 1 ≤ ns 17),
      (true, Ex.OpMeets Try.prog (Ex.appSem 49 49 (.slice (some ⟨ns 16, 0, none⟩) (F.length + 1 + 1) (ns 17)) (.slice (some ⟨ns 18, 0, none⟩) 1 1)) (Ex.appC [(ns 18, srcU)] [(ns 16, .row 26 1 (F.length + 1 + 1) (ns 17) (((ls 10) ++ u7) ++ u7))] 26 1 (F.length + 1 + 1) 1 ((((ls 10) ++ u7) ++ u7) ++ u7))),
      (false, (F.length + 1 + 1) + 1 ≤ ns 20),
      (true, Ex.OpMeets Try.prog (Ex.appSem 49 49 (.slice (some ⟨ns 19, 0, none⟩) (F.length + 1 + 1 + 1) (ns 20)) (.slice (some ⟨ns 21, 0, none⟩) 1 1)) (Ex.appC [(ns 21, srcU)] [(ns 19, .row 26 1 (F.length + 1 + 1 + 1) (ns 20) ((((ls 10) ++ u7) ++ u7) ++ u7))] 26 1 (F.length + 1 + 1 + 1) 1 (((((ls 10) ++ u7) ++ u7) ++ u7) ++ u7))),
      (false, (F.length + 1 + 1 + 1) + 1 ≤ ns 23),
      (true, Ex.OpMeets Try.prog (Ex.appSem 49 49 (.slice (some ⟨ns 22, 0, none⟩) (F.length + 1 + 1 + 1 + 1) (ns 23)) (.slice (some ⟨ns 24, 0, none⟩) 1 1)) (Ex.appC [(ns 24, srcU)] [(ns 22, .row 26 1 (F.length + 1 + 1 + 1 + 1) (ns 23) (((((ls 10) ++ u7) ++ u7) ++ u7) ++ u7))] 26 1 (F.length + 1 + 1 + 1 + 1) 1 ((((((ls 10) ++ u7) ++ u7) ++ u7) ++ u7) ++ u7))),
      (false, (F.length + 1 + 1 + 1 + 1) + 1 ≤ ns 26),
      (true, Ex.OpMeets Try.prog (Ex.appSem 49 49 (.slice (some ⟨ns 8, 0, none⟩) F.length (ns 9)) (.slice (some ⟨ns 27, 0, none⟩) 2 2)) (Ex.appC [(ns 27, src2U)] [(ns 8, .row 26 1 F.length (ns 9) (wordsOf F))] 26 1 F.length 2 (wordsOf F ++ twU))),
      (false, F.length + 2 ≤ ns 29),
      (true, slS 49 (ns 28) (F.length + 2) (ns 29) F.length),
      (false, F.length ≤ ns 31),
      (true, slS 49 (ns 28) (F.length + 2) (ns 29) F.length),
      (false, F.length ≤ ns 33),
      (true, Value.bool (!((F.length : Int) == (F.length : Int))) = .bool false),
      (true, Value.bool (!((F.length : Int) == (F.length : Int))) = .bool false),
      (true, ixU (ns 28) (F.length + 2) (ns 29) F.length),
      (true, (Cont.row 26 1 (F.length + 2) (ns 29) (wordsOf F ++ twU)).at (0 + F.length * 1) = some (.int .u32 201)),
      (true, Value.int .i64 (IntKind.i64.wrap ((F.length : Int) + 1)) = .int .i64 ((F.length + 1 : Nat) : Int)),
      (true, ixU (ns 28) (F.length + 2) (ns 29) (F.length + 1)),
      (true, (Cont.row 26 1 (F.length + 2) (ns 29) (wordsOf F ++ twU)).at (0 + (F.length + 1) * 1) = some (.int .u32 202)),
      (false, True),
      (true, Ex.OpMeets Try.prog (Ex.appSem 50 50 (.slice (some ⟨ns 30, 0, none⟩) F.length (ns 31)) (.slice (some ⟨ns 36, 0, none⟩) 1 1)) (Ex.appC [(ns 36, srcI)] [(ns 30, .row 25 6 F.length (ns 31) (ls 34))] 25 6 F.length 1 ((ls 34) ++ zeros6))),
      (false, F.length + 1 ≤ ns 38),
      (true, Ex.OpMeets Try.prog (Ex.appSem 50 50 (.slice (some ⟨ns 37, 0, none⟩) (F.length + 1) (ns 38)) (.slice (some ⟨ns 39, 0, none⟩) 1 1)) (Ex.appC [(ns 39, srcI)] [(ns 37, .row 25 6 (F.length + 1) (ns 38) ((ls 34) ++ zeros6))] 25 6 (F.length + 1) 1 (((ls 34) ++ zeros6) ++ zeros6))),
      (false, (F.length + 1) + 1 ≤ ns 41),
      (true, Ex.OpMeets Try.prog (Ex.appSem 50 50 (.slice (some ⟨ns 40, 0, none⟩) (F.length + 1 + 1) (ns 41)) (.slice (some ⟨ns 42, 0, none⟩) 1 1)) (Ex.appC [(ns 42, srcI)] [(ns 40, .row 25 6 (F.length + 1 + 1) (ns 41) (((ls 34) ++ zeros6) ++ zeros6))] 25 6 (F.length + 1 + 1) 1 ((((ls 34) ++ zeros6) ++ zeros6) ++ zeros6))),
      (false, (F.length + 1 + 1) + 1 ≤ ns 44),
      (true, Ex.OpMeets Try.prog (Ex.appSem 50 50 (.slice (some ⟨ns 43, 0, none⟩) (F.length + 1 + 1 + 1) (ns 44)) (.slice (some ⟨ns 45, 0, none⟩) 1 1)) (Ex.appC [(ns 45, srcI)] [(ns 43, .row 25 6 (F.length + 1 + 1 + 1) (ns 44) ((((ls 34) ++ zeros6) ++ zeros6) ++ zeros6))] 25 6 (F.length + 1 + 1 + 1) 1 (((((ls 34) ++ zeros6) ++ zeros6) ++ zeros6) ++ zeros6))),
      (false, (F.length + 1 + 1 + 1) + 1 ≤ ns 47),
      (true, Ex.OpMeets Try.prog (Ex.appSem 50 50 (.slice (some ⟨ns 46, 0, none⟩) (F.length + 1 + 1 + 1 + 1) (ns 47)) (.slice (some ⟨ns 48, 0, none⟩) 1 1)) (Ex.appC [(ns 48, srcI)] [(ns 46, .row 25 6 (F.length + 1 + 1 + 1 + 1) (ns 47) (((((ls 34) ++ zeros6) ++ zeros6) ++ zeros6) ++ zeros6))] 25 6 (F.length + 1 + 1 + 1 + 1) 1 ((((((ls 34) ++ zeros6) ++ zeros6) ++ zeros6) ++ zeros6) ++ zeros6))),
      (false, (F.length + 1 + 1 + 1 + 1) + 1 ≤ ns 50),
      (true, Value.bool ((((F.length + 1 + 1 + 1 + 1 + 1) : Nat) : Int) == IntKind.i64.wrap ((F.length : Int) + 5)) = .bool true),
      (true, Value.bool ((((F.length + 1 + 1 + 1 + 1 + 1) : Nat) : Int) == IntKind.i64.wrap ((F.length : Int) + 5)) = .bool true)])
    (fun ns ls => by kernel_rfl) (fun ns ls => by kernel_rfl) (fun ns ls => fun _ => ⟨appI_met (.inr ⟨_, _, rfl, rfl⟩) rfl rfl (by omega) rfl (by omega) (by omega), fun _ => ⟨slS_I _ _ _ _ (by omega), fun _ => ⟨slS_I _ _ _ _ (by omega), fun _ => ⟨by simp, ⟨by simp, ⟨ixI_ok _ _ _ _ (by omega), ⟨at_99 F _ _, ⟨by rw [wrap_succ' F.length 101 (by omega) (by omega)], ⟨ixI_ok _ _ _ _ (by omega), ⟨at_98 F _ _, fun _ => ⟨appU_met (.inr ⟨_, _, rfl, rfl⟩) rfl rfl (by omega) rfl (by omega) (by omega), fun _ => ⟨appU_met (.inr ⟨_, _, rfl, rfl⟩) rfl rfl (by omega) rfl (by omega) (by omega), fun _ => ⟨appU_met (.inr ⟨_, _, rfl, rfl⟩) rfl rfl (by omega) rfl (by omega) (by omega), fun _ => ⟨appU_met (.inr ⟨_, _, rfl, rfl⟩) rfl rfl (by omega) rfl (by omega) (by omega), fun _ => ⟨appU_met (.inr ⟨_, _, rfl, rfl⟩) rfl rfl (by omega) rfl (by omega) (by omega), fun _ => ⟨appU_met (.inr ⟨_, _, rfl, rfl⟩) rfl rfl (by omega) rfl (by omega) (by omega), fun _ => ⟨slS_U _ _ _ _ (by omega), fun _ => ⟨slS_U _ _ _ _ (by omega), fun _ => ⟨by simp, ⟨by simp, ⟨ixU_ok _ _ _ _ (by omega), ⟨at_201 F _ _, ⟨by rw [wrap_succ' F.length 101 (by omega) (by omega)], ⟨ixU_ok _ _ _ _ (by omega), ⟨at_202 F _ _, fun _ => ⟨appI_met (.inr ⟨_, _, rfl, rfl⟩) rfl rfl (by omega) rfl (by omega) (by omega), fun _ => ⟨appI_met (.inr ⟨_, _, rfl, rfl⟩) rfl rfl (by omega) rfl (by omega) (by omega), fun _ => ⟨appI_met (.inr ⟨_, _, rfl, rfl⟩) rfl rfl (by omega) rfl (by omega) (by omega), fun _ => ⟨appI_met (.inr ⟨_, _, rfl, rfl⟩) rfl rfl (by omega) rfl (by omega) (by omega), fun _ => ⟨appI_met (.inr ⟨_, _, rfl, rfl⟩) rfl rfl (by omega) rfl (by omega) (by omega), fun _ => ⟨five_eq F hn, ⟨five_eq F hn, trivial⟩⟩⟩⟩⟩⟩⟩⟩⟩⟩⟩⟩⟩⟩⟩⟩⟩⟩⟩⟩⟩⟩⟩⟩⟩⟩⟩⟩⟩⟩⟩⟩)
    (seg_rep (l := [(b, .seg o (insCells l))]) (fun p hp => by rcases List.mem_singleton.1 hp with rfl; exact hs))

theorem kept_any (b o c : Nat) (l : List I) (hfit : ∀ i ∈ l, i.fit) (W : World) (hs : (Cont.seg o (insCells l)).sat W.heap[b]?) :
    Calls Try.prog fK #[.slice (some ⟨b, o, none⟩) l.length c] W fun e w' => e = .returned (.bool true) ∧ Below W.heap.size W w' := by
  by_cases h : keepF l 100 = []
  · exact keptN_any b o c l hfit h W hs
  · have hmem : ∀ i ∈ keepF l 100, i ∈ l ∧ fitsI i = true := fun i hi => by
      obtain ⟨h1, h2⟩ := List.mem_filter.1 hi
      exact ⟨List.mem_of_mem_take h1, h2⟩
    exact keptP_any b o c l _ hfit rfl (by cases hk : keepF l 100 with | nil => exact (h hk).elim | cons a t => simp) (keepF_len l 100) (fun i hi => (hmem i hi).2) (fun i hi => hfit i (hmem i hi).1) W hs

end Go.Proofs.Ytjcebkkmpgafkaa
