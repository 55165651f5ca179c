/-
  CodeKept, the first loop: those of the first hundred that fit.
-/
import Derived.Test.YtjcebkkmpgafkaaWordsB
namespace Go.Proofs.Ytjcebkkmpgafkaa
open Go Go.RowKit
open Ex (Cont num)

def fK : FuncId := 13
noncomputable def bodyK0 : Code := Ex.loopBody Try.f13 0
def rowF (g k cap : Nat) (xs : List Value) : Ex.Blk := ⟨g, .row 25 6 k cap xs, true⟩
def slK0 (b o n c k : Nat) (v : Value) : List (Nat × Value) := [(0, .slice (some ⟨b, o, none⟩) n c), (3, v), (4, .int .i64 k)]
def iVals (i : I) : List (Ex.Hist → Value) := [fun _ => .int .i64 i.op, fun _ => .int .i64 i.rd, fun _ => .int .i64 i.rn, fun _ => .int .i64 i.rm, fun _ => .int .i64 i.imm, fun _ => .int .i64 i.cond]
def ptrV (b o : Nat) : Ex.Hist → Value := fun _ => .pointer (some ⟨b, o, none⟩)
def bV (x : Bool) : Ex.Hist → Value := fun _ => .bool x

def ctxK0 (i : I) (fit : Bool) (k b o m : Nat) (use : List (Nat × Cont)) (xs : List Value) (rl : List (Ex.Hist → Value)) : Ex.Ctx :=
  Ex.mkCtx [21, 23] (refCs i fit) [(fK, 26), (fK, 29)] [(fK, 36), (fK, 43)]
    (rl ++ (ptrV b (o + k * 6) :: iVals i ++ (ptrV b (o + k * 6) :: iVals i))) [] [] [] [(fK, 35), (fK, 42)] [(fK, 45)]
    [fun h => Ex.appC [(num h 0, .obj (.cells i.cells 25 (0, 0)))] use 25 6 m 1 (xs ++ i.cells.toList)]
theorem ctxK0_holds (i : I) (hi : i.fit) (fit : Bool) (hf : fitsI i = fit) (k b o m : Nat) (use : List (Nat × Cont)) (xs : List Value) (rl : List (Ex.Hist → Value)) : (ctxK0 i fit k b o m use xs rl).holds Try.prog :=
  Ex.mk_holds (Ex.cons_c (fun _ => Ex.meets_plain fun W => ref_call i W) (Ex.cons_c (fun _ => Ex.meets_plain fun W => by rw [← hf]; exact rfitsI_call i hi W) Ex.nil_c)) Ex.nil_l

theorem cells_one (i : I) : ∀ u ∈ i.cells.toList, u.oneCell' = true := fun u hu => by
  simp only [I.cells, List.mem_cons, List.not_mem_nil, or_false] at hu
  rcases hu with rfl | rfl | rfl | rfl | rfl | rfl <;> rfl
theorem cells_at (i : I) : ∀ (j : Nat) (u : Value), i.cells.toList[j]? = some u → (Cont.obj (.cells i.cells 25 (0, 0))).at (0 + j) = some u := fun j u hu => by
  rw [Nat.zero_add]
  exact hu

def askK0 (l : List I) (i : I) (b o c k : Nat) : List (Bool × Prop) :=
  [(true, Value.bool (decide ((k : Int) < (l.length : Int))) = .bool true), (true, Value.bool (decide ((k : Int) < 100)) = .bool true)] ++ (ask41 l i b o l.length c k).drop 1
theorem askK0_ok {l : List I} {i : I} {k : Nat} (hk : l[k]? = some i) (h : k < 100) (b o c : Nat) : ∀ p ∈ askK0 l i b o c k, p.1 = true ∧ p.2 := by
  have hlt : k < l.length := (List.getElem?_eq_some_iff.1 hk).1
  intro p hp
  rcases List.mem_append.1 hp with hp | hp
  · simp only [List.mem_cons, List.not_mem_nil, or_false] at hp
    rcases hp with rfl | rfl
    · exact ⟨rfl, by rw [decide_eq_true (by omega)]⟩
    · exact ⟨rfl, by rw [decide_eq_true (by omega)]⟩
  · exact ask41_ok hk b o c p (List.mem_of_mem_drop hp)

theorem skipK0_a (l : List I) (i : I) (b o c k : Nat) (h100 : k < 100) (hk : l[k]? = some i) (hi : i.fit) (hf : fitsI i = false) {w0 W : World} {a : Act} (v : Value)
    (hK : Ev.Known 227 (slK0 b o l.length c k v) a) (hR : Ex.Rep w0 (fun _ => True) (Ex.E0 [segB b o l] none) W) {Q : Exit → Act → World → Prop}
    (hQ : ∀ a' W', Ev.Known 227 (slK0 b o l.length c (k + 1) v) a' → Ex.Rep w0 (fun _ => True) (Ex.E0 [segB b o l] none) W' → Q .normal a' W') : bodyK0.wp Try.prog Q a W := by
  refine Ex.wp_run (ctxK0_holds i hi false hf k b o 0 [] [] [bV true, bV true]) mixed 200 fK
    (Ex.traceP Try.prog (ctxK0 i0 false 5 1 0 0 [] [] [bV true, bV true]) 200 fK bodyK0 ⟨227, slK0 1 0 7 7 5 v⟩ [segB 1 0 []]) hK hR [0, 3, 4] [0] (by decide) (x := .normal) (m' := 227)
    (vs := fun ns _ => [.slice (some ⟨b, o, none⟩) l.length c, v, .int .i64 (IntKind.i64.wrap ((k : Int) + 1))]) (L' := fun ns _ => [segB b o l]) (q := fun ns ls => askK0 l i b o c k ++ [])
    (fun ns ls => by kernel_rfl) (fun ns ls => by kernel_rfl) (fun ns ls => holds_app (askK0_ok hk h100 b o c) (fun a' W' hK' hR' => hQ a' W' ?_ hR'))
  rw [wrap_succ' k 100 h100 (by omega)] at hK'
  exact hK'

theorem skipK0_b (l : List I) (i : I) (b o c k : Nat) (h100 : k < 100) (hk : l[k]? = some i) (hi : i.fit) (hf : fitsI i = false) {w0 W : World} {a : Act} (v : Value) (g m cap : Nat) (xs : List Value)
    (hK : Ev.Known 227 (slK0 b o l.length c k v) a) (hR : Ex.Rep w0 (fun _ => True) (Ex.E0 [segB b o l, rowF g m cap xs] none) W) {Q : Exit → Act → World → Prop}
    (hQ : ∀ a' W', Ev.Known 227 (slK0 b o l.length c (k + 1) v) a' → Ex.Rep w0 (fun _ => True) (Ex.E0 [segB b o l, rowF g m cap xs] none) W' → Q .normal a' W') : bodyK0.wp Try.prog Q a W := by
  refine Ex.wp_run (ctxK0_holds i hi false hf k b o 0 [] [] [bV true, bV true]) mixed 200 fK
    (Ex.traceP Try.prog (ctxK0 i0 false 5 1 0 0 [] [] [bV true, bV true]) 200 fK bodyK0 ⟨227, slK0 1 0 7 7 5 v⟩ [segB 1 0 [], rowF 2 3 4 []]) hK hR [0, 3, 4] [0, 1] (by decide) (x := .normal) (m' := 227)
    (vs := fun ns _ => [.slice (some ⟨b, o, none⟩) l.length c, v, .int .i64 (IntKind.i64.wrap ((k : Int) + 1))]) (L' := fun ns _ => [segB b o l, rowF g m cap xs]) (q := fun ns ls => askK0 l i b o c k ++ [])
    (fun ns ls => by kernel_rfl) (fun ns ls => by kernel_rfl) (fun ns ls => holds_app (askK0_ok hk h100 b o c) (fun a' W' hK' hR' => hQ a' W' ?_ hR'))
  rw [wrap_succ' k 100 h100 (by omega)] at hK'
  exact hK'

theorem addK0_a (l : List I) (i : I) (b o c k : Nat) (h100 : k < 100) (hk : l[k]? = some i) (hi : i.fit) (hf : fitsI i = true) {w0 W : World} {a : Act}
    (hK : Ev.Known 227 (slK0 b o l.length c k (.slice none 0 0)) a) (hR : Ex.Rep w0 (fun _ => True) (Ex.E0 [segB b o l] none) W) {Q : Exit → Act → World → Prop}
    (hQ : ∀ g cap a' W', Ev.Known 227 (slK0 b o l.length c (k + 1) (.slice (some ⟨g, 0, none⟩) 1 cap)) a' → Ex.Rep w0 (fun _ => True) (Ex.E0 [segB b o l, rowF g 1 cap i.cells.toList] none) W' → Q .normal a' W') : bodyK0.wp Try.prog Q a W := by
  refine Ex.wp_run (ctxK0_holds i hi true hf k b o 0 [] [] [bV true, bV true]) mixed 200 fK
    (Ex.traceP Try.prog (ctxK0 i0 true 5 1 0 0 [] [] [bV true, bV true]) 200 fK bodyK0 ⟨227, slK0 1 0 7 7 5 (.slice none 0 0)⟩ [segB 1 0 []]) hK hR [0, 3, 4] [2, 0] (by decide) (x := .normal) (m' := 227)
    (vs := fun ns _ => [.slice (some ⟨b, o, none⟩) l.length c, .slice (some ⟨ns 1, 0, none⟩) 1 (ns 2), .int .i64 (IntKind.i64.wrap ((k : Int) + 1))]) (L' := fun ns _ => [segB b o l, rowF (ns 1) 1 (ns 2) i.cells.toList])
    (q := fun ns ls => askK0 l i b o c k ++ ((ask41 l i b o l.length c k).drop 1 ++ [(true, Ex.OpMeets Try.prog (Ex.appSem 50 50 (.slice none 0 0) (.slice (some ⟨ns 0, 0, none⟩) 1 1)) (Ex.appC [(ns 0, .obj (.cells i.cells 25 (0, 0)))] [] 25 6 0 1 i.cells.toList)), (false, 1 ≤ ns 2)]))
    (fun ns ls => by kernel_rfl) (fun ns ls => by kernel_rfl) (fun ns ls => holds_app (askK0_ok hk h100 b o c) (holds_app (fun p hp => ask41_ok hk b o c p (List.mem_of_mem_drop hp)) ⟨?_, fun _ a' W' hK' hR' => hQ _ _ a' W' ?_ hR'⟩))
  · exact Ex.app_met elemI (xs := []) (.inl ⟨rfl, rfl, rfl, rfl⟩) rfl (by omega) (cells_one i) (by simp only [maxLen]; omega) (by omega) (cells_at i)
  · rw [wrap_succ' k 100 h100 (by omega)] at hK'
    exact hK'

theorem addK0_b (l : List I) (i : I) (b o c k : Nat) (h100 : k < 100) (hk : l[k]? = some i) (hi : i.fit) (hf : fitsI i = true) {w0 W : World} {a : Act} (g m cap : Nat) (hm : m ≤ 100) (xs : List Value)
    (hK : Ev.Known 227 (slK0 b o l.length c k (.slice (some ⟨g, 0, none⟩) m cap)) a) (hR : Ex.Rep w0 (fun _ => True) (Ex.E0 [segB b o l, rowF g m cap xs] none) W) {Q : Exit → Act → World → Prop}
    (hQ : ∀ g' cap' a' W', Ev.Known 227 (slK0 b o l.length c (k + 1) (.slice (some ⟨g', 0, none⟩) (m + 1) cap')) a' → Ex.Rep w0 (fun _ => True) (Ex.E0 [segB b o l, rowF g' (m + 1) cap' (xs ++ i.cells.toList)] none) W' → Q .normal a' W') : bodyK0.wp Try.prog Q a W := by
  refine Ex.wp_run (ctxK0_holds i hi true hf k b o m [(g, .row 25 6 m cap xs)] xs [bV true, bV true]) mixed 200 fK
    (Ex.traceP Try.prog (ctxK0 i0 true 5 1 0 3 [(2, .row 25 6 3 4 [])] [] [bV true, bV true]) 200 fK bodyK0 ⟨227, slK0 1 0 7 7 5 (.slice (some ⟨2, 0, none⟩) 3 4)⟩ [segB 1 0 [], rowF 2 3 4 []]) hK hR [0, 3, 4] [2, 0] (by decide) (x := .normal) (m' := 227)
    (vs := fun ns _ => [.slice (some ⟨b, o, none⟩) l.length c, .slice (some ⟨ns 1, 0, none⟩) (m + 1) (ns 2), .int .i64 (IntKind.i64.wrap ((k : Int) + 1))]) (L' := fun ns _ => [segB b o l, rowF (ns 1) (m + 1) (ns 2) (xs ++ i.cells.toList)])
    (q := fun ns ls => askK0 l i b o c k ++ ((ask41 l i b o l.length c k).drop 1 ++ [(true, Ex.OpMeets Try.prog (Ex.appSem 50 50 (.slice (some ⟨g, 0, none⟩) m cap) (.slice (some ⟨ns 0, 0, none⟩) 1 1)) (Ex.appC [(ns 0, .obj (.cells i.cells 25 (0, 0)))] [(g, .row 25 6 m cap xs)] 25 6 m 1 (xs ++ i.cells.toList))), (false, m + 1 ≤ ns 2)]))
    (fun ns ls => by kernel_rfl) (fun ns ls => by kernel_rfl) (fun ns ls => holds_app (askK0_ok hk h100 b o c) (holds_app (fun p hp => ask41_ok hk b o c p (List.mem_of_mem_drop hp)) ⟨?_, fun _ a' W' hK' hR' => hQ _ _ a' W' ?_ hR'⟩))
  · exact Ex.app_met elemI (.inr ⟨g, cap, rfl, rfl⟩) rfl (by omega) (cells_one i) (by simp only [maxLen]; omega) (by omega) (cells_at i)
  · rw [wrap_succ' k 100 h100 (by omega)] at hK'
    exact hK'

/-- The end: of the list, or of the hundred. -/
theorem endK0 (b o n c k : Nat) (v : Value) (h : k = n ∨ (k = 100 ∧ k < n)) {L : List Ex.Blk} {w0 W : World} {a : Act} (hK : Ev.Known 227 (slK0 b o n c k v) a) (hR : Ex.Rep w0 (fun _ => True) (Ex.E0 L none) W) {Q : Exit → Act → World → Prop}
    (hQ : ∀ a' W', Ev.Known 227 [(3, v)] a' → Ex.Rep w0 (fun _ => True) (Ex.E0 (Ex.pickL L [0, 1]) none) W' → Q (.exit 0) a' W') : bodyK0.wp Try.prog Q a W := by
  rcases h with rfl | ⟨rfl, hlt⟩
  · exact Ex.wp_run (ctxK0_holds i0 i0_fit _ rfl 0 0 0 0 [] [] [bV false]) mixed 200 fK (some []) hK hR [3] [0, 1] (by decide) (x := .exit 0) (m' := 227)
      (vs := fun ns _ => [v]) (L' := fun ns _ => Ex.pickL L [0, 1]) (q := fun ns ls => [(true, Value.bool (decide ((k : Int) < (k : Int))) = .bool false)])
      (fun ns ls => by kernel_rfl) (fun ns ls => by kernel_rfl) (fun ns ls => ⟨by rw [decide_eq_false (by omega)], fun a' W' hK' hR' => hQ a' W' hK' hR'⟩)
  · exact Ex.wp_run (ctxK0_holds i0 i0_fit _ rfl 0 0 0 0 [] [] [bV true, bV false]) mixed 200 fK (some []) hK hR [3] [0, 1] (by decide) (x := .exit 0) (m' := 227)
      (vs := fun ns _ => [v]) (L' := fun ns _ => Ex.pickL L [0, 1]) (q := fun ns ls => [(true, Value.bool (decide (((100 : Nat) : Int) < (n : Int))) = .bool true), (true, Value.bool (decide (((100 : Nat) : Int) < 100)) = .bool false)])
      (fun ns ls => by kernel_rfl) (fun ns ls => by kernel_rfl) (fun ns ls => ⟨by rw [decide_eq_true (by omega)], by rw [decide_eq_false (by omega)], fun a' W' hK' hR' => hQ a' W' hK' hR'⟩)

/-! ### The loop -/

def keepF (l : List I) (k : Nat) : List I := (l.take k).filter fitsI
theorem keepF_succ {l : List I} {k : Nat} {i : I} (h : l[k]? = some i) : keepF l (k + 1) = keepF l k ++ (if fitsI i then [i] else []) := by
  obtain ⟨hlt, he⟩ := List.getElem?_eq_some_iff.1 h
  unfold keepF
  rw [List.take_succ_eq_append_getElem hlt, he, List.filter_append]
  congr 1
  cases hf : fitsI i <;> simp [hf]
theorem keepF_len (l : List I) (k : Nat) : (keepF l k).length ≤ k := by
  have h1 := List.length_filter_le fitsI (l.take k)
  have h2 : (l.take k).length ≤ k := List.length_take_le _ _
  unfold keepF
  omega

theorem slotK4 {b o n c i : Nat} {v : Value} {a' : Act} (h : Ev.Known 227 (slK0 b o n c i v) a') : (intOf (a'.tmps.getD 4 undef)).toNat = i := by
  have := h.get (4, .int .i64 i) (by simp [slK0])
  simp only at this
  rw [this]; rfl

theorem insCells_app (l m : List I) : insCells (l ++ m) = insCells l ++ insCells m := by simp [insCells]
theorem insCells_one (i : I) : insCells [i] = i.cells.toList := by simp [insCells]

/-- What holds at the end, either way. -/
theorem filt_wp (b o c : Nat) (l : List I) (hfit : ∀ i ∈ l, i.fit) {a0 : Act} {W : World} (hK0 : Ev.Known 227 (slK0 b o l.length c 0 (.slice none 0 0)) a0) (hs : (Cont.seg o (insCells l)).sat W.heap[b]?) {Q : Exit → Act → World → Prop}
    (hQ : ∀ a' W', (keepF l 100 = [] ∧ Ev.Known 227 [(3, .slice none 0 0)] a' ∧ Below W.heap.size W W') ∨
      (0 < (keepF l 100).length ∧ ∃ g cap, Ev.Known 227 [(3, .slice (some ⟨g, 0, none⟩) (keepF l 100).length cap)] a' ∧ Ex.Rep W (fun _ => True) (Ex.E0 [segB b o l, rowF g (keepF l 100).length cap (insCells (keepF l 100))] none) W') → Q (.exit 0) a' W') : (Code.loop bodyK0).wp Try.prog Q a0 W := by
  refine wp_loop (fun a wr => ∃ k : Nat, k ≤ l.length ∧ k ≤ 100 ∧ ((keepF l k = [] ∧ Ev.Known 227 (slK0 b o l.length c k (.slice none 0 0)) a ∧ Ex.Rep W (fun _ => True) (Ex.E0 [segB b o l] none) wr) ∨
      (0 < (keepF l k).length ∧ ∃ g cap, Ev.Known 227 (slK0 b o l.length c k (.slice (some ⟨g, 0, none⟩) (keepF l k).length cap)) a ∧ Ex.Rep W (fun _ => True) (Ex.E0 [segB b o l, rowF g (keepF l k).length cap (insCells (keepF l k))] none) wr)))
    (fun a _ => l.length - (intOf (a.tmps.getD 4 undef)).toNat) ?_ ?_
  · exact ⟨0, by omega, by omega, .inl ⟨rfl, hK0, seg_rep (l := [(b, .seg o (insCells l))]) (fun p hp => by rcases List.mem_singleton.1 hp with rfl; exact hs)⟩⟩
  · rintro a wr ⟨k, hk, h100, h⟩
    by_cases hgo : k < l.length ∧ k < 100
    · obtain ⟨hlt, hlt100⟩ := hgo
      have he : l[k]? = some l[k] := List.getElem?_eq_getElem hlt
      have hi := hfit _ (List.getElem_mem hlt)
      have hsucc := keepF_succ he
      have hlen := keepF_len l k
      generalize l[k] = i at *
      cases hf : fitsI i with
      | false =>
        rw [hf] at hsucc
        simp only [Bool.false_eq_true, if_false, List.append_nil] at hsucc
        rcases h with ⟨h0, hK, hR⟩ | ⟨h0, g, cap, hK, hR⟩
        · refine skipK0_a l i b o c k hlt100 he hi hf _ hK hR fun a' W' hK' hR' => ?_
          refine ⟨⟨k + 1, by omega, by omega, .inl ⟨by rw [hsucc]; exact h0, hK', hR'⟩⟩, ?_⟩
          rw [slotK4 hK', slotK4 hK]
          omega
        · refine skipK0_b l i b o c k hlt100 he hi hf _ g _ cap _ hK hR fun a' W' hK' hR' => ?_
          refine ⟨⟨k + 1, by omega, by omega, .inr ⟨by rw [hsucc]; exact h0, g, cap, by rw [hsucc]; exact hK', by rw [hsucc]; exact hR'⟩⟩, ?_⟩
          rw [slotK4 hK', slotK4 hK]
          omega
      | true =>
        rw [hf] at hsucc
        simp only [if_true] at hsucc
        have hl1 : (keepF l (k + 1)).length = (keepF l k).length + 1 := by rw [hsucc]; simp
        have hc1 : insCells (keepF l (k + 1)) = insCells (keepF l k) ++ i.cells.toList := by rw [hsucc, insCells_app, insCells_one]
        rcases h with ⟨h0, hK, hR⟩ | ⟨h0, g, cap, hK, hR⟩
        · refine addK0_a l i b o c k hlt100 he hi hf hK hR fun g cap a' W' hK' hR' => ?_
          rw [h0] at hl1 hc1
          refine ⟨⟨k + 1, by omega, by omega, .inr ⟨by rw [hl1]; simp, g, cap, by rw [hl1]; exact hK', by rw [hl1, hc1]; exact hR'⟩⟩, ?_⟩
          rw [slotK4 hK', slotK4 hK]
          omega
        · refine addK0_b l i b o c k hlt100 he hi hf g _ cap (by omega) _ hK hR fun g' cap' a' W' hK' hR' => ?_
          refine ⟨⟨k + 1, by omega, by omega, .inr ⟨by omega, g', cap', by rw [hl1]; exact hK', by rw [hl1, hc1]; exact hR'⟩⟩, ?_⟩
          rw [slotK4 hK', slotK4 hK]
          omega
    · have hend : k = l.length ∨ (k = 100 ∧ k < l.length) := by omega
      have hkeep : keepF l k = keepF l 100 := by
        unfold keepF
        rcases hend with rfl | ⟨rfl, -⟩
        · rw [List.take_of_length_le (Nat.le_refl _), List.take_of_length_le (by omega)]
        · rfl
      rcases h with ⟨h0, hK, hR⟩ | ⟨h0, g, cap, hK, hR⟩
      · refine endK0 b o _ c k _ hend hK hR fun a' W' hK' hR' => ?_
        simp only [Exit.then]
        exact hQ a' W' (.inl ⟨by rw [← hkeep]; exact h0, hK', hR'.below⟩)
      · refine endK0 b o _ c k _ hend hK hR fun a' W' hK' hR' => ?_
        simp only [Exit.then]
        rw [hkeep] at h0 hK' hR'
        exact hQ a' W' (.inr ⟨h0, g, cap, hK', hR'⟩)

noncomputable def filtNil (b o c : Nat) (l : List I) : Ex.LoopC := ⟨.loop bodyK0, 227, slK0 b o l.length c 0 (.slice none 0 0), Ex.readM [(b, .seg o (insCells l))], .exit 0, fun _ => [(3, .slice none 0 0)]⟩
theorem filtNil_met (b o c : Nat) (l : List I) (hfit : ∀ i ∈ l, i.fit) (h : keepF l 100 = []) : Ex.MeetsL Try.prog (filtNil b o c l) := by
  intro a0 W hK0 hpre
  refine filt_wp b o c l hfit hK0 (hpre.1 _ (List.mem_singleton_self _)) fun a' W' hh => ?_
  rcases hh with ⟨-, hK', hb⟩ | ⟨h0, -⟩
  · exact ⟨rfl, [], hK', Ex.post_read hb⟩
  · rw [h] at h0; cases h0

noncomputable def filtRow (b o c : Nat) (l F : List I) : Ex.LoopC :=
  ⟨.loop bodyK0, 227, slK0 b o l.length c 0 (.slice none 0 0), ⟨[(b, .seg o (insCells l))], [], 2, fun ns => F.length ≤ num ns 1, fun ns => [(num ns 0, .row 25 6 F.length (num ns 1) (insCells F))]⟩, .exit 0, fun ns => [(3, .slice (some ⟨num ns 0, 0, none⟩) F.length (num ns 1))]⟩
theorem filtRow_met (b o c : Nat) (l F : List I) (hfit : ∀ i ∈ l, i.fit) (hF : F = keepF l 100) (h : 0 < F.length) : Ex.MeetsL Try.prog (filtRow b o c l F) := by
  intro a0 W hK0 hpre
  refine filt_wp b o c l hfit hK0 (hpre.1 _ (List.mem_singleton_self _)) fun a' W' hh => ?_
  rw [← hF] at hh
  rcases hh with ⟨h0, -⟩ | ⟨h0, g, cap, hK', hR'⟩
  · rw [h0] at h; cases h
  · obtain ⟨h1, h2⟩ := new_row (g := g) (ct := .row 25 6 F.length cap (insCells F)) hR' (by simp [rowF])
    have hb := hR'.below
    refine ⟨rfl, [(g, []), (cap, [])], hK', rfl, ?_, hb.os, hb.tape, hb.output, hb.size, fun k hk _ => hb.block k hk, fun p hp => ?_, by simp [filtRow]⟩
    · obtain ⟨cur, -, -, h, -⟩ := h2
      exact h
    · rcases List.mem_singleton.1 hp with rfl
      exact ⟨.inl h1, h2⟩

end Go.Proofs.Ytjcebkkmpgafkaa
