/-
  code.Words: any list of instructions.
-/
import Derived.Test.YtjcebkkmpgafkaaExD
import Derived.Test.YtjcebkkmpgafkaaLawB
namespace Go.Proofs.Ytjcebkkmpgafkaa
open Go Go.RowKit
open Ex (Cont num)

theorem flat_get {α : Type} (f : α → List Value) (sz : Nat) (h : ∀ a, (f a).length = sz) : ∀ (l : List α) (k j : Nat) (a : α), j < sz → l[k]? = some a → (l.flatMap f)[k * sz + j]? = (f a)[j]?
  | [], k, j, a, _, hk => by cases hk
  | x :: l, 0, j, a, hj, hk => by
    simp only [List.getElem?_cons_zero, Option.some.injEq] at hk
    subst hk
    rw [List.flatMap_cons, List.getElem?_append_left (by rw [h]; omega)]
    simp
  | x :: l, k + 1, j, a, hj, hk => by
    rw [List.flatMap_cons, List.getElem?_append_right (by rw [h, Nat.add_mul]; omega), h, show (k + 1) * sz + j - sz = k * sz + j by rw [Nat.add_mul]; omega]
    exact flat_get f sz h l k j a hj (by simpa using hk)

theorem seg_at {o k sz j : Nat} {xs : List Value} : (Cont.seg o xs).at (o + k * sz + j) = xs[k * sz + j]? := by
  simp only [Cont.at]
  rw [if_pos (by omega), show o + k * sz + j - o = k * sz + j by omega]

def insCells (l : List I) : List Value := l.flatMap fun i => i.cells.toList
theorem ins_at {l : List I} {k : Nat} {i : I} (hk : l[k]? = some i) (o j : Nat) (hj : j < 6) : (Cont.seg o (insCells l)).at (o + k * 6 + j) = i.cells.toList[j]? := by
  rw [seg_at]
  exact flat_get (fun i : I => i.cells.toList) 6 (fun _ => rfl) l k j i hj hk

theorem elemW : Ex.Elem Try.prog 49 26 1 4 := by
  obtain ⟨i, hi, h1, h2, h3⟩ := info_parts (show (Try.prog.info? 26).map (fun i => (i.zero, i.size, i.bytes)) = some (some (.int .u32 0), 1, 4) by kernel_rfl)
  exact ⟨Try.underlying49, ⟨i, _, hi, h1, h2, h3, rfl⟩, by omega⟩
theorem elemI : Ex.Elem Try.prog 50 25 6 48 := by
  obtain ⟨i, hi, h1, h2, h3⟩ := info_parts (show (Try.prog.info? 25).map (fun i => (i.zero, i.size, i.bytes)) = some (some (.agg #[.int .i64 0, .int .i64 0, .int .i64 0, .int .i64 0, .int .i64 0, .int .i64 0]), 6, 48) by kernel_rfl)
  exact ⟨Try.underlying50, ⟨i, _, hi, h1, h2, h3, rfl⟩, by omega⟩

def wV (i : I) : Value := .int .u32 (wordI i : Nat)
def fEa : FuncId := 41

def sl41 (b o n c k : Nat) (v : Value) : List (Nat × Value) := [(1, .func (.func 20) #[] #[]), (14, .slice (some ⟨b, o, none⟩) n c), (15, .int .i64 n), (16, .int .i64 k), (4, v)]
noncomputable def body41 : Code := Ex.loopBody Try.f41 0

def row41 (i : I) (e : Value) (k b o : Nat) (use : List (Nat × Cont)) (xs : List Value) (go : Bool) : Ex.Ctx :=
  Ex.mkCtx [20] [fun _ => Ex.plainC 20 #[.agg i.cells] e] [(fEa, 17)] [(fEa, 20)]
    [fun _ => .bool go, fun _ => .pointer (some ⟨b, o + k * 6, none⟩), fun _ => .int .i64 i.op, fun _ => .int .i64 i.rd, fun _ => .int .i64 i.rn, fun _ => .int .i64 i.rm, fun _ => .int .i64 i.imm, fun _ => .int .i64 i.cond] [] [] []
    [(fEa, 19)] [(fEa, 34)] [fun h => Ex.appC [(num h 0, .obj (.cells #[wV i] 26 (0, 0)))] use 26 1 k 1 (xs ++ [wV i])]

theorem row41_holds (i : I) (hi : i.fit) (e : Value) (he : encV i = e) (k b o : Nat) (use : List (Nat × Cont)) (xs : List Value) (go : Bool) : (row41 i e k b o use xs go).holds Try.prog :=
  Ex.mk_holds (Ex.cons_c (fun _ => Ex.meets_plain fun W => by rw [← he]; exact enc_call i hi W) Ex.nil_c) Ex.nil_l

/-- What a round asks of the list's element number k. -/
def ask41 (l : List I) (i : I) (b o n c k : Nat) : List (Bool × Prop) :=
  [(true, Value.bool (decide ((k : Int) < (n : Int))) = .bool true),
   (true, ∀ W, (Ex.opV (Instr.indexAt 50 (.slice (some ⟨b, o, none⟩) n c) (.int .i64 (k : Nat)))).run Try.prog W = .ok (.value (.pointer (some ⟨b, o + k * 6, none⟩))) W),
   (true, (Cont.seg o (insCells l)).at (o + k * 6 + 0) = some (.int .i64 i.op)), (true, (Cont.seg o (insCells l)).at (o + k * 6 + 1) = some (.int .i64 i.rd)), (true, (Cont.seg o (insCells l)).at (o + k * 6 + 2) = some (.int .i64 i.rn)),
   (true, (Cont.seg o (insCells l)).at (o + k * 6 + 3) = some (.int .i64 i.rm)), (true, (Cont.seg o (insCells l)).at (o + k * 6 + 4) = some (.int .i64 i.imm)), (true, (Cont.seg o (insCells l)).at (o + k * 6 + 5) = some (.int .i64 i.cond))]

theorem holds_app {X : Prop} : ∀ {l r : List (Bool × Prop)}, (∀ p ∈ l, p.1 = true ∧ p.2) → Ex.holds X r → Ex.holds X (l ++ r)
  | [], _, _, h => h
  | (b, p) :: l, r, hl, h => by
    obtain ⟨h1, h2⟩ := hl (b, p) List.mem_cons_self
    simp only at h1
    subst h1
    exact ⟨h2, holds_app (fun q hq => hl q (List.mem_cons_of_mem _ hq)) h⟩

theorem ask41_ok {l : List I} {i : I} {k : Nat} (hk : l[k]? = some i) (b o c : Nat) : ∀ p ∈ ask41 l i b o l.length c k, p.1 = true ∧ p.2 := by
  have hlt : k < l.length := (List.getElem?_eq_some_iff.1 hk).1
  obtain ⟨ii, z, hi, hz, hs, -⟩ := elemI.info
  intro p hp
  simp only [ask41, List.mem_cons, List.not_mem_nil, or_false] at hp
  rcases hp with rfl | rfl | rfl | rfl | rfl | rfl | rfl | rfl
  · exact ⟨rfl, by rw [decide_eq_true (by omega)]⟩
  · exact ⟨rfl, fun W => Ex.index_run elemI.under hi hs b o _ c k hlt W⟩
  · exact ⟨rfl, ins_at hk o 0 (by omega)⟩
  · exact ⟨rfl, ins_at hk o 1 (by omega)⟩
  · exact ⟨rfl, ins_at hk o 2 (by omega)⟩
  · exact ⟨rfl, ins_at hk o 3 (by omega)⟩
  · exact ⟨rfl, ins_at hk o 4 (by omega)⟩
  · exact ⟨rfl, ins_at hk o 5 (by omega)⟩

def i0 : I := ⟨1, 1, 0, 0, 5, 0⟩
def segB (b o : Nat) (l : List I) : Ex.Blk := ⟨b, .seg o (insCells l), false⟩
def rowB (g k cap : Nat) (xs : List Value) : Ex.Blk := ⟨g, .row 26 1 k cap xs, true⟩

theorem wV_one (i : I) : ∀ u ∈ [wV i], u.oneCell' = true := fun u hu => by
  rcases List.mem_singleton.1 hu with rfl
  rfl
theorem wV_at (i : I) : ∀ (j : Nat) (u : Value), [wV i][j]? = some u → (Cont.obj (.cells #[wV i] 26 (0, 0))).at (0 + j) = some u := fun j u hu => by
  rw [Nat.zero_add]
  exact hu

/-- The first round: nothing has been appended yet. -/
theorem round41_a (l : List I) (i : I) (b o c : Nat) (hk : l[0]? = some i) (hi : i.fit) (hf : fitsI i = true) {w0 W : World} {a : Act}
    (hK : Ev.Known 37 (sl41 b o l.length c 0 (.slice none 0 0)) a) (hR : Ex.Rep w0 (fun _ => True) (Ex.E0 [segB b o l] none) W) {Q : Exit → Act → World → Prop}
    (hQ : ∀ g cap a' W', Ev.Known 37 (sl41 b o l.length c 1 (.slice (some ⟨g, 0, none⟩) 1 cap)) a' → Ex.Rep w0 (fun _ => True) (Ex.E0 [segB b o l, rowB g 1 cap [wV i]] none) W' → Q .normal a' W') : body41.wp Try.prog Q a W := by
  refine Ex.wp_run (row41_holds i hi _ (enc_fit i hf) 0 b o [] [] true) mixed 200 fEa
    (Ex.traceP Try.prog (row41 i0 (.tuple #[wV i0, .int .i64 0]) 0 1 0 [] [] true) 200 fEa body41 ⟨37, sl41 1 0 7 7 0 (.slice none 0 0)⟩ [segB 1 0 []]) hK hR [1, 14, 15, 16, 4] [3, 0] (by decide) (x := .normal) (m' := 37)
    (vs := fun ns _ => (sl41 b o l.length c 1 (.slice (some ⟨ns 2, 0, none⟩) 1 (ns 3))).map Prod.snd) (L' := fun ns _ => [segB b o l, rowB (ns 2) 1 (ns 3) [wV i]])
    (q := fun ns ls => ask41 l i b o l.length c 0 ++ [(true, Ex.OpMeets Try.prog (Ex.appSem 49 49 (.slice none 0 0) (.slice (some ⟨ns 1, 0, none⟩) 1 1)) (Ex.appC [(ns 1, .obj (.cells #[wV i] 26 (0, 0)))] [] 26 1 0 1 [wV i])), (false, 1 ≤ ns 3)])
    (fun ns ls => by kernel_rfl) (fun ns ls => by kernel_rfl) (fun ns ls => holds_app (ask41_ok hk b o c) ⟨?_, fun _ a' W' hK' hR' => hQ _ _ a' W' hK' hR'⟩)
  exact Ex.app_met elemW (xs := []) (.inl ⟨rfl, rfl, rfl, rfl⟩) rfl (by omega) (wV_one i) (by simp only [maxLen]; omega) (by omega) (wV_at i)

/-- A later round. -/
theorem round41_b (l : List I) (i : I) (b o c k g cap : Nat) (xs : List Value) (hn : l.length ≤ 16384) (hk : l[k]? = some i) (hi : i.fit) (hf : fitsI i = true) {w0 W : World} {a : Act}
    (hK : Ev.Known 37 (sl41 b o l.length c k (.slice (some ⟨g, 0, none⟩) k cap)) a) (hR : Ex.Rep w0 (fun _ => True) (Ex.E0 [segB b o l, rowB g k cap xs] none) W) {Q : Exit → Act → World → Prop}
    (hQ : ∀ g' cap' a' W', Ev.Known 37 (sl41 b o l.length c (k + 1) (.slice (some ⟨g', 0, none⟩) (k + 1) cap')) a' → Ex.Rep w0 (fun _ => True) (Ex.E0 [segB b o l, rowB g' (k + 1) cap' (xs ++ [wV i])] none) W' → Q .normal a' W') : body41.wp Try.prog Q a W := by
  have hlt : k < l.length := (List.getElem?_eq_some_iff.1 hk).1
  refine Ex.wp_run (row41_holds i hi _ (enc_fit i hf) k b o [(g, .row 26 1 k cap xs)] xs true) mixed 200 fEa
    (Ex.traceP Try.prog (row41 i0 (.tuple #[wV i0, .int .i64 0]) 5 1 0 [(2, .row 26 1 5 7 [])] [] true) 200 fEa body41 ⟨37, sl41 1 0 7 7 5 (.slice (some ⟨2, 0, none⟩) 5 7)⟩ [segB 1 0 [], rowB 2 5 7 []]) hK hR [1, 14, 15, 16, 4] [3, 0] (by decide) (x := .normal) (m' := 37)
    (vs := fun ns _ => [.func (.func 20) #[] #[], .slice (some ⟨b, o, none⟩) l.length c, .int .i64 l.length, .int .i64 (IntKind.i64.wrap ((k : Int) + 1)), .slice (some ⟨ns 2, 0, none⟩) (k + 1) (ns 3)]) (L' := fun ns _ => [segB b o l, rowB (ns 2) (k + 1) (ns 3) (xs ++ [wV i])])
    (q := fun ns ls => ask41 l i b o l.length c k ++ [(true, Ex.OpMeets Try.prog (Ex.appSem 49 49 (.slice (some ⟨g, 0, none⟩) k cap) (.slice (some ⟨ns 1, 0, none⟩) 1 1)) (Ex.appC [(ns 1, .obj (.cells #[wV i] 26 (0, 0)))] [(g, .row 26 1 k cap xs)] 26 1 k 1 (xs ++ [wV i]))), (false, k + 1 ≤ ns 3)])
    (fun ns ls => by kernel_rfl) (fun ns ls => by kernel_rfl) (fun ns ls => holds_app (ask41_ok hk b o c) ⟨?_, fun _ a' W' hK' hR' => hQ _ _ a' W' ?_ hR'⟩)
  · exact Ex.app_met elemW (.inr ⟨g, cap, rfl, rfl⟩) rfl (by omega) (wV_one i) (by simp only [maxLen]; omega) (by omega) (wV_at i)
  · rw [IntWalk.i64_in _ (by omega)] at hK'
    exact hK'

/-- An instruction that has no word: the end. -/
theorem round41_c (l : List I) (i : I) (b o c k : Nat) (v : Value) (hk : l[k]? = some i) (hi : i.fit) (hf : fitsI i = false) {w0 W : World} {a : Act}
    (hK : Ev.Known 37 (sl41 b o l.length c k v) a) (hR : Ex.Rep w0 (fun _ => True) (Ex.E0 [segB b o l] none) W) {Q : Exit → Act → World → Prop}
    (hQ : ∀ a' W', Ev.Known 37 [(4, .slice none 0 0), (5, .int .i64 k), (6, .int .i64 7)] a' → Ex.Rep w0 (fun _ => True) (Ex.E0 [] none) W' → Q .ret a' W') : body41.wp Try.prog Q a W := by
  exact Ex.wp_run (row41_holds i hi _ (enc_not i hf) k b o [] [] true) mixed 200 fEa
    (Ex.traceP Try.prog (row41 i0 (.tuple #[.int .u32 0, .int .i64 7]) 5 1 0 [] [] true) 200 fEa body41 ⟨37, sl41 1 0 7 7 5 (.slice none 0 0)⟩ [segB 1 0 []]) hK hR [4, 5, 6] [] (by decide) (x := .ret) (m' := 37)
    (vs := fun ns _ => [.slice none 0 0, .int .i64 k, .int .i64 7]) (L' := fun ns _ => []) (q := fun ns ls => ask41 l i b o l.length c k ++ [])
    (fun ns ls => by kernel_rfl) (fun ns ls => by kernel_rfl) (fun ns ls => holds_app (ask41_ok hk b o c) (fun a' W' hK' hR' => hQ a' W' hK' hR'))

/-- All have been looked at. -/
theorem round41_d (b o n c : Nat) (v : Value) {L : List Ex.Blk} {w0 W : World} {a : Act}
    (hK : Ev.Known 37 (sl41 b o n c n v) a) (hR : Ex.Rep w0 (fun _ => True) (Ex.E0 L none) W) {Q : Exit → Act → World → Prop}
    (hQ : ∀ a' W', Ev.Known 37 [(4, v)] a' → Ex.Rep w0 (fun _ => True) (Ex.E0 (Ex.pickL L [0, 1]) none) W' → Q (.exit 0) a' W') : body41.wp Try.prog Q a W := by
  exact Ex.wp_run (S := row41 i0 (encV i0) 0 0 0 [] [] false) (row41_holds i0 ⟨by decide, by decide, by decide, by decide, by decide⟩ _ rfl 0 0 0 [] [] false) mixed 200 fEa
    (some []) hK hR [4] [0, 1] (by decide) (x := .exit 0) (m' := 37)
    (vs := fun ns _ => [v]) (L' := fun ns _ => Ex.pickL L [0, 1]) (q := fun ns ls => [(true, Value.bool (decide ((n : Int) < (n : Int))) = .bool false)])
    (fun ns ls => by kernel_rfl) (fun ns ls => by kernel_rfl) (fun ns ls => ⟨by rw [decide_eq_false (by omega)], fun a' W' hK' hR' => hQ a' W' hK' hR'⟩)

/-! ### The loop -/

def wordsOf (l : List I) : List Value := l.map wV

noncomputable def goodL (b o c : Nat) (l : List I) : Ex.LoopC :=
  ⟨.loop body41, 37, sl41 b o l.length c 0 (.slice none 0 0), ⟨[(b, .seg o (insCells l))], [], 2, fun ns => l.length ≤ num ns 1, fun ns => [(num ns 0, .row 26 1 l.length (num ns 1) (wordsOf l))]⟩, .exit 0,
   fun ns => [(4, .slice (some ⟨num ns 0, 0, none⟩) l.length (num ns 1))]⟩

theorem seg_rep {l : List (Nat × Cont)} {W : World} (h : ∀ p ∈ l, p.2.sat W.heap[p.1]?) : Ex.Rep W (fun _ => True) (Ex.E0 (l.map fun p => ⟨p.1, p.2, false⟩) none) W :=
  ⟨rfl, rfl, rfl, Nat.le_refl _, fun _ _ _ => rfl, fun q hq => by
    obtain ⟨p, hp, rfl⟩ := List.mem_map.1 hq
    exact ⟨h p hp, fun h => (by cases h)⟩, by
    show (l.map fun p => (⟨p.1, p.2, false⟩ : Ex.Blk)).Pairwise Ex.Far
    rw [List.pairwise_map]
    exact List.pairwise_of_forall fun _ _ h => (by cases h)⟩

/-- What a world behind a piece holds of new rows. -/
theorem new_row {w0 W : World} {L : List Ex.Blk} (h : Ex.Rep w0 (fun _ => True) (Ex.E0 L none) W) {g : Nat} {ct : Cont} (hm : (⟨g, ct, true⟩ : Ex.Blk) ∈ L) : w0.heap.size ≤ g ∧ ct.sat W.heap[g]? := by
  obtain ⟨h1, h2⟩ := h.blk _ hm
  refine ⟨?_, h1⟩
  rcases Nat.lt_or_ge g w0.heap.size with hlt | hge
  · exact (h2 rfl hlt trivial).elim
  · exact hge

theorem slot16 {b o n c i : Nat} {v : Value} {a' : Act} (h : Ev.Known 37 (sl41 b o n c i v) a') : (intOf (a'.tmps.getD 16 undef)).toNat = i := by
  have := h.get (16, .int .i64 i) (by simp [sl41])
  simp only at this
  rw [this]; rfl

theorem take_snoc {l : List I} {k : Nat} {i : I} (h : l[k]? = some i) : wordsOf (l.take (k + 1)) = wordsOf (l.take k) ++ [wV i] := by
  obtain ⟨hlt, he⟩ := List.getElem?_eq_some_iff.1 h
  rw [List.take_succ_eq_append_getElem hlt, he]
  simp [wordsOf]

theorem good_met (b o c : Nat) (l : List I) (h0 : 0 < l.length) (hn : l.length ≤ 16384) (hfit : ∀ i ∈ l, i.fit) (hall : ∀ i ∈ l, fitsI i = true) : Ex.MeetsL Try.prog (goodL b o c l) := by
  intro a W hK hpre
  show (Code.loop body41).wp _ _ _ _
  refine wp_loop (fun a wr => ∃ k : Nat, k ≤ l.length ∧
      ((k = 0 ∧ Ev.Known 37 (sl41 b o l.length c 0 (.slice none 0 0)) a ∧ Ex.Rep W (fun _ => True) (Ex.E0 [segB b o l] none) wr) ∨
       (0 < k ∧ ∃ g cap, Ev.Known 37 (sl41 b o l.length c k (.slice (some ⟨g, 0, none⟩) k cap)) a ∧ Ex.Rep W (fun _ => True) (Ex.E0 [segB b o l, rowB g k cap (wordsOf (l.take k))] none) wr)))
    (fun a _ => l.length - (intOf (a.tmps.getD 16 undef)).toNat) ?_ ?_
  · exact ⟨0, by omega, .inl ⟨rfl, hK, seg_rep hpre.1⟩⟩
  · rintro a wr ⟨k, hk, ⟨rfl, hK, hR⟩ | ⟨hk0, g, cap, hK, hR⟩⟩
    · have he : l[0]? = some l[0] := List.getElem?_eq_getElem h0
      refine round41_a l l[0] b o c he (hfit _ (List.getElem_mem h0)) (hall _ (List.getElem_mem h0)) hK hR fun g cap a' W' hK' hR' => ?_
      refine ⟨⟨1, by omega, .inr ⟨by omega, g, cap, hK', by rw [take_snoc he]; exact hR'⟩⟩, ?_⟩
      rw [slot16 hK', slot16 hK]
      omega
    · by_cases hlt : k < l.length
      · have he : l[k]? = some l[k] := List.getElem?_eq_getElem hlt
        refine round41_b l l[k] b o c k g cap _ hn he (hfit _ (List.getElem_mem hlt)) (hall _ (List.getElem_mem hlt)) hK hR fun g' cap' a' W' hK' hR' => ?_
        refine ⟨⟨k + 1, by omega, .inr ⟨by omega, g', cap', hK', by rw [take_snoc he]; exact hR'⟩⟩, ?_⟩
        rw [slot16 hK', slot16 hK]
        omega
      · have : k = l.length := by omega
        subst this
        refine round41_d b o _ c _ hK hR fun a' W' hK' hR' => ?_
        simp only [Exit.then]
        rw [List.take_length] at hR'
        obtain ⟨h1, h2⟩ := new_row (g := g) (ct := .row 26 1 l.length cap (wordsOf l)) hR' (by simp [Ex.pickL, rowB])
        have hb := hR'.below
        refine ⟨rfl, [(g, []), (cap, [])], hK', rfl, ?_, hb.os, hb.tape, hb.output, hb.size, fun k hk _ => hb.block k hk, fun p hp => ?_, by simp [goodL]⟩
        · obtain ⟨cur, -, -, h, -⟩ := h2
          exact h
        · rcases List.mem_singleton.1 hp with rfl
          exact ⟨.inl h1, h2⟩

noncomputable def badL (b o c : Nat) (l : List I) (at_ : Nat) : Ex.LoopC :=
  ⟨.loop body41, 37, sl41 b o l.length c 0 (.slice none 0 0), Ex.readM [(b, .seg o (insCells l))], .ret, fun _ => [(4, .slice none 0 0), (5, .int .i64 at_), (6, .int .i64 7)]⟩

theorem bad_met (b o c : Nat) (l : List I) (at_ : Nat) (hn : l.length ≤ 16384) (hfit : ∀ i ∈ l, i.fit) (i : I) (hat : l[at_]? = some i) (hbad : fitsI i = false) (hall : ∀ k j, k < at_ → l[k]? = some j → fitsI j = true) : Ex.MeetsL Try.prog (badL b o c l at_) := by
  intro a0 W hK0 hpre
  show (Code.loop body41).wp _ _ _ _
  have hlat : at_ < l.length := (List.getElem?_eq_some_iff.1 hat).1
  have hfi : i.fit := hfit _ (List.mem_of_getElem? hat)
  have fin : ∀ {m : Nat} {a' : Act} {W' : World}, Ev.Known 37 [(4, .slice none 0 0), (5, .int .i64 at_), (6, .int .i64 7)] a' → Ex.Rep W (fun _ => True) (Ex.E0 [] none) W' → (Exit.ret = (badL b o c l at_).x ∧ ∃ ns, Ev.Known (badL b o c l at_).n ((badL b o c l at_).out ns) a' ∧ (badL b o c l at_).mem.post W W' ns) := fun hK' hR' =>
    ⟨rfl, [], hK', Ex.post_read hR'.below⟩
  refine wp_loop (fun a wr => ∃ k : Nat, k ≤ at_ ∧
      ((k = 0 ∧ Ev.Known 37 (sl41 b o l.length c 0 (.slice none 0 0)) a ∧ Ex.Rep W (fun _ => True) (Ex.E0 [segB b o l] none) wr) ∨
       (0 < k ∧ ∃ g cap, Ev.Known 37 (sl41 b o l.length c k (.slice (some ⟨g, 0, none⟩) k cap)) a ∧ Ex.Rep W (fun _ => True) (Ex.E0 [segB b o l, rowB g k cap (wordsOf (l.take k))] none) wr)))
    (fun a _ => l.length - (intOf (a.tmps.getD 16 undef)).toNat) ?_ ?_
  · exact ⟨0, by omega, .inl ⟨rfl, hK0, seg_rep hpre.1⟩⟩
  · rintro a wr ⟨k, hk, ⟨rfl, hK, hR⟩ | ⟨hk0, g, cap, hK, hR⟩⟩
    · by_cases h0 : at_ = 0
      · subst h0
        refine round41_c l i b o c 0 _ hat hfi hbad hK hR fun a' W' hK' hR' => ?_
        simp only [Exit.then]
        exact fin (m := 0) hK' hR'
      · have he : l[0]? = some (l[0]'(by omega)) := List.getElem?_eq_getElem (by omega)
        refine round41_a l _ b o c he (hfit _ (List.mem_of_getElem? he)) (hall 0 _ (by omega) he) hK hR fun g cap a' W' hK' hR' => ?_
        refine ⟨⟨1, by omega, .inr ⟨by omega, g, cap, hK', by rw [take_snoc he]; exact hR'⟩⟩, ?_⟩
        rw [slot16 hK', slot16 hK]
        omega
    · by_cases hlt : k < at_
      · have he : l[k]? = some (l[k]'(by omega)) := List.getElem?_eq_getElem (by omega)
        refine round41_b l _ b o c k g cap _ hn he (hfit _ (List.mem_of_getElem? he)) (hall k _ hlt he) hK hR fun g' cap' a' W' hK' hR' => ?_
        refine ⟨⟨k + 1, by omega, .inr ⟨by omega, g', cap', hK', by rw [take_snoc he]; exact hR'⟩⟩, ?_⟩
        rw [slot16 hK', slot16 hK]
        omega
      · have : k = at_ := by omega
        subst this
        have hR2 : Ex.Rep W (fun _ => True) (Ex.E0 [segB b o l] none) wr := (hR.sub (L := [segB b o l]) (by simp [Ex.E0])).of_eq rfl
        refine round41_c l i b o c k _ hat hfi hbad hK hR2 fun a' W' hK' hR' => ?_
        simp only [Exit.then]
        exact fin (m := 0) hK' hR'

/-! ### Words -/

def fWords : FuncId := 28
def bound (long : Bool) : List (Ex.Hist → Value) := [fun _ => .bool long]

noncomputable def ctxW (long : Bool) (lp : List (Ex.Hist → Ex.LoopC)) : Ex.Ctx := Ex.mkCtx [] [] [(fEa, 13)] [] (bound long) [fEa] lp

theorem words_long (A : Option Addr) (n c : Nat) (h : 16384 < n) : Ex.Meets Try.prog (Ex.plainC fWords #[.slice A n c] (.tuple #[.slice none 0 0, .int .i64 16384, .int .i64 2])) :=
  Ex.meets_plain fun W => Ex.calls_value (S := ctxW true []) (Ex.mk_holds Ex.nil_c Ex.nil_l) mixed 100 _ (fun _ _ => [(true, Value.bool (decide ((16384 : Int) < (n : Int))) = .bool true)]) (fun ns ls => by kernel_rfl) (fun ns ls => by kernel_rfl) (fun _ _ => ⟨by rw [decide_eq_true (by omega)], trivial⟩) W

noncomputable def ctxN : Ex.Ctx := Ex.mkCtx [] [] [] [] [] [] []
theorem words_none (A : Option Addr) (c : Nat) : Ex.Meets Try.prog (Ex.plainC fWords #[.slice A 0 c] (.tuple #[.slice none 0 0, .int .i64 0, .int .i64 0])) :=
  Ex.meets_plain fun W => Ex.calls_value (S := ctxN) (Ex.mk_holds Ex.nil_c Ex.nil_l) mixed 100 _ (fun _ _ => []) (fun ns ls => by kernel_rfl) (fun ns ls => by kernel_rfl) (fun _ _ => trivial) W

noncomputable def goodW (b o c : Nat) (l : List I) : Ex.CallC :=
  ⟨fWords, #[.slice (some ⟨b, o, none⟩) l.length c], (goodL b o c l).mem, fun ns => .tuple #[.slice (some ⟨num ns 0, 0, none⟩) l.length (num ns 1), .int .i64 0, .int .i64 0]⟩
noncomputable def badW (b o c : Nat) (l : List I) (at_ : Nat) : Ex.CallC :=
  ⟨fWords, #[.slice (some ⟨b, o, none⟩) l.length c], (badL b o c l at_).mem, fun _ => .tuple #[.slice none 0 0, .int .i64 at_, .int .i64 7]⟩

theorem words_good (b o c : Nat) (l : List I) (h0 : 0 < l.length) (hn : l.length ≤ 16384) (hfit : ∀ i ∈ l, i.fit) (hall : ∀ i ∈ l, fitsI i = true) : Ex.Meets Try.prog (goodW b o c l) := by
  intro W hpre
  refine Ex.calls_run (S := ctxW false [fun _ => goodL b o c l]) (Ex.mk_holds Ex.nil_c (Ex.cons_l (fun _ => good_met b o c l h0 hn hfit hall) Ex.nil_l)) mixed 100
    (orc := Ex.traceC Try.prog (ctxW false [fun _ => goodL 1 0 7 [i0]]) 100 fWords #[.slice (some ⟨1, 0, none⟩) 1 7] [segB 1 0 [i0]])
    (v := fun ns _ => .tuple #[.slice (some ⟨ns 0, 0, none⟩) l.length (ns 1), .int .i64 0, .int .i64 0]) (L' := fun ns _ => [rowB (ns 0) l.length (ns 1) (wordsOf l), segB b o l]) (q := fun ns _ => [(true, Value.bool (decide ((16384 : Int) < (l.length : Int))) = .bool false), (false, l.length ≤ ns 1)])
    (fun ns ls => by kernel_rfl) (fun ns ls => by kernel_rfl) (seg_rep hpre.1) (fun ns ls => ⟨by rw [decide_eq_false (by omega)], fun hcap W' hR => ?_⟩)
  obtain ⟨h1, h2⟩ := new_row (g := ns 0) (ct := .row 26 1 l.length (ns 1) (wordsOf l)) hR (by simp [rowB])
  have hb := hR.below
  refine ⟨[(ns 0, []), (ns 1, [])], rfl, rfl, hcap, hb.os, hb.tape, hb.output, hb.size, fun k hk _ => hb.block k hk, fun p hp => ?_, by simp [goodW, goodL]⟩
  rcases List.mem_singleton.1 hp with rfl
  exact ⟨.inl h1, h2⟩

theorem words_bad (b o c : Nat) (l : List I) (at_ : Nat) (hn : l.length ≤ 16384) (hfit : ∀ i ∈ l, i.fit) (i : I) (hat : l[at_]? = some i) (hbad : fitsI i = false) (hall : ∀ k j, k < at_ → l[k]? = some j → fitsI j = true) : Ex.Meets Try.prog (badW b o c l at_) := by
  intro W hpre
  refine Ex.calls_run (S := ctxW false [fun _ => badL b o c l at_]) (Ex.mk_holds Ex.nil_c (Ex.cons_l (fun _ => bad_met b o c l at_ hn hfit i hat hbad hall) Ex.nil_l)) mixed 100
    (orc := Ex.traceC Try.prog (ctxW false [fun _ => badL 1 0 7 [i0] 0]) 100 fWords #[.slice (some ⟨1, 0, none⟩) 1 7] [segB 1 0 [i0]])
    (v := fun ns _ => .tuple #[.slice none 0 0, .int .i64 at_, .int .i64 7]) (L' := fun ns _ => [segB b o l]) (q := fun ns _ => [(true, Value.bool (decide ((16384 : Int) < (l.length : Int))) = .bool false)])
    (fun ns ls => by kernel_rfl) (fun ns ls => by kernel_rfl) (seg_rep hpre.1) (fun ns ls => ⟨by rw [decide_eq_false (by omega)], fun W' hR => ?_⟩)
  exact ⟨[], rfl, Ex.post_read hR.below⟩

end Go.Proofs.Ytjcebkkmpgafkaa
