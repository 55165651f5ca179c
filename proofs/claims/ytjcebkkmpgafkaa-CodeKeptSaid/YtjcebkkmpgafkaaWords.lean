/-
  CodeWords: Words of any instructions, the first that has none; and List of those words.
-/
import Derived.Test.YtjcebkkmpgafkaaListsB
namespace Go.Proofs.Ytjcebkkmpgafkaa
open Go Go.RowKit
open Ex (Cont num)

theorem numCells_eq (l : List I) : numCells (l.map wordI) = wordsOf l := by
  induction l with
  | nil => rfl
  | cons i l ih => simp only [List.map_cons, numCells, List.flatMap_cons, wordsOf] at ih ⊢; rw [ih]; rfl

theorem jOf_word {i : I} (h : fitsI i = true) : decI (wordI i) = some i := by
  obtain ⟨k, h1, h2⟩ := dec_word i h
  unfold decI
  rw [h1, Option.map_some, h2]

theorem insOf_eq : ∀ (l : List I), (∀ i ∈ l, fitsI i = true) → insOf (l.map wordI) = insCells l
  | [], _ => rfl
  | i :: l, h => by
    have h1 := jOf_word (h i List.mem_cons_self)
    have h2 := insOf_eq l fun x hx => h x (List.mem_cons_of_mem _ hx)
    unfold insOf insCells at *
    rw [List.map_cons, List.flatMap_cons, List.flatMap_cons, h2]
    congr 1
    unfold jV jOf
    rw [h1]
    rfl

/-- List of the words that Words has told. -/
def backW (g cap : Nat) (l : List I) : Ex.CallC :=
  ⟨fList, #[.slice (some ⟨g, 0, none⟩) l.length cap], ⟨[(g, .seg 0 (wordsOf l))], [], 2, fun ns => l.length ≤ num ns 1, fun ns => [(num ns 0, .row 25 6 l.length (num ns 1) (insCells l))]⟩, fun ns => .tuple #[.slice (some ⟨num ns 0, 0, none⟩) l.length (num ns 1), .int .i64 0, .int .i64 0]⟩
theorem backW_met (g cap : Nat) (l : List I) (h0 : 0 < l.length) (hn : l.length ≤ 16384) (hall : ∀ i ∈ l, fitsI i = true) : Ex.Meets Try.prog (backW g cap l) := by
  have h := list_good g 0 cap (l.map wordI) (by simpa using h0) (by simpa using hn) (fun x hx => by
    obtain ⟨i, -, rfl⟩ := List.mem_map.1 hx
    exact wordI_lt i) (fun x hx => by
    obtain ⟨i, hi, rfl⟩ := List.mem_map.1 hx
    exact ⟨i, jOf_word (hall i hi)⟩)
  have e : goodV g 0 cap (l.map wordI) = backW g cap l := by
    simp only [goodV, goodM, backW, numCells_eq, insOf_eq l hall, List.length_map]
  rw [← e]
  exact h

/-! ### The first loop -/

def fW : FuncId := 11
noncomputable def bodyW1 : Code := Ex.loopBody Try.f11 0
noncomputable def bodyW2 : Code := Ex.loopBody Try.f11 1
noncomputable def bodyW3 : Code := Ex.loopBody Try.f11 2
def refCs (i : I) (fit : Bool) : List (Ex.Hist → Ex.CallC) := [fun _ => Ex.plainC 21 #[.agg i.cells] (.agg i.cells), fun _ => Ex.plainC 23 #[.agg i.cells] (.bool fit)]

def ctxW1 (i : I) (fit : Bool) (k b o : Nat) (go : Bool) : Ex.Ctx :=
  Ex.mkCtx [21, 23] (refCs i fit) [(fW, 35), (fW, 51)] [(fW, 41)]
    [fun _ => .bool go, fun _ => .pointer (some ⟨b, o + k * 6, none⟩), fun _ => .int .i64 i.op, fun _ => .int .i64 i.rd, fun _ => .int .i64 i.rn, fun _ => .int .i64 i.rm, fun _ => .int .i64 i.imm, fun _ => .int .i64 i.cond, fun _ => .bool true] [] [] [] [(fW, 40)]
theorem ctxW1_holds (i : I) (hi : i.fit) (fit : Bool) (hf : fitsI i = fit) (k b o : Nat) (go : Bool) : (ctxW1 i fit k b o go).holds Try.prog :=
  Ex.mk_holds (Ex.cons_c (fun _ => Ex.meets_plain fun W => ref_call i W) (Ex.cons_c (fun _ => Ex.meets_plain fun W => by rw [← hf]; exact rfitsI_call i hi W) Ex.nil_c)) Ex.nil_l

theorem i0_fit : i0.fit := ⟨by decide, by decide, by decide, by decide, by decide⟩
def slW1 (b o n c k : Nat) (v3 v4 v5 : Value) : List (Nat × Value) := [(0, .slice (some ⟨b, o, none⟩) n c), (3, v3), (4, v4), (5, v5), (6, .int .i64 k)]

theorem roundW1_good (l : List I) (i : I) (b o c k : Nat) (v3 v4 v5 : Value) (hn : l.length ≤ 16384) (hk : l[k]? = some i) (hi : i.fit) (hf : fitsI i = true) {w0 W : World} {a : Act}
    (hK : Ev.Known 121 (slW1 b o l.length c k v3 v4 v5) a) (hR : Ex.Rep w0 (fun _ => True) (Ex.E0 [segB b o l] none) W) {Q : Exit → Act → World → Prop}
    (hQ : ∀ a' W', Ev.Known 121 (slW1 b o l.length c (k + 1) v3 v4 v5) a' → Ex.Rep w0 (fun _ => True) (Ex.E0 [segB b o l] none) W' → Q .normal a' W') : bodyW1.wp Try.prog Q a W := by
  have hlt : k < l.length := (List.getElem?_eq_some_iff.1 hk).1
  refine Ex.wp_run (ctxW1_holds i hi true hf k b o true) mixed 200 fW
    (Ex.traceP Try.prog (ctxW1 i0 true 5 1 0 true) 200 fW bodyW1 ⟨121, slW1 1 0 7 7 5 v3 v4 v5⟩ [segB 1 0 []]) hK hR [0, 3, 4, 5, 6] [0] (by decide) (x := .normal) (m' := 121)
    (vs := fun ns _ => [.slice (some ⟨b, o, none⟩) l.length c, v3, v4, v5, .int .i64 (IntKind.i64.wrap ((k : Int) + 1))]) (L' := fun ns _ => [segB b o l]) (q := fun ns ls => ask41 l i b o l.length c k ++ [])
    (fun ns ls => by kernel_rfl) (fun ns ls => by kernel_rfl) (fun ns ls => holds_app (ask41_ok hk b o c) (fun a' W' hK' hR' => hQ a' W' ?_ hR'))
  rw [wrap_succ' k _ hlt hn] at hK'
  exact hK'

theorem roundW1_bad (l : List I) (i : I) (b o c k : Nat) (hk : l[k]? = some i) (hi : i.fit) (hf : fitsI i = false) {w0 W : World} {a : Act}
    (hK : Ev.Known 121 (slW1 b o l.length c k (.slice none 0 0) (.int .i64 k) (.int .i64 7)) a) (hR : Ex.Rep w0 (fun _ => True) (Ex.E0 [segB b o l] none) W) {Q : Exit → Act → World → Prop}
    (hQ : ∀ a' W', Ev.Known 121 [(2, .bool true)] a' → Ex.Rep w0 (fun _ => True) (Ex.E0 [] none) W' → Q .ret a' W') : bodyW1.wp Try.prog Q a W := by
  refine Ex.wp_run (ctxW1_holds i hi false hf k b o true) mixed 200 fW
    (Ex.traceP Try.prog (ctxW1 i0 false 5 1 0 true) 200 fW bodyW1 ⟨121, slW1 1 0 7 7 5 (.slice none 0 0) (.int .i64 5) (.int .i64 7)⟩ [segB 1 0 []]) hK hR [2] [] (by decide) (x := .ret) (m' := 121)
    (vs := fun ns _ => [.bool true]) (L' := fun ns _ => []) (q := fun ns ls => ask41 l i b o l.length c k ++ [(true, Value.bool ((k : Int) == (k : Int)) = .bool true)])
    (fun ns ls => by kernel_rfl) (fun ns ls => by kernel_rfl) (fun ns ls => holds_app (ask41_ok hk b o c) ⟨by rw [beq_self_eq_true], fun a' W' hK' hR' => hQ a' W' hK' hR'⟩)

theorem roundW1_end (b o n c : Nat) (v3 v4 v5 : Value) {L : List Ex.Blk} {w0 W : World} {a : Act}
    (hK : Ev.Known 121 (slW1 b o n c n v3 v4 v5) a) (hR : Ex.Rep w0 (fun _ => True) (Ex.E0 L none) W) {Q : Exit → Act → World → Prop}
    (hQ : ∀ a' W', Ev.Known 121 ((slW1 b o n c 0 v3 v4 v5).take 4) a' → Ex.Rep w0 (fun _ => True) (Ex.E0 [] none) W' → Q (.exit 0) a' W') : bodyW1.wp Try.prog Q a W := by
  refine Ex.wp_run (ctxW1_holds i0 i0_fit _ rfl 0 0 0 false) mixed 200 fW (some []) hK hR [0, 3, 4, 5] [] (by decide) (x := .exit 0) (m' := 121)
    (vs := fun ns _ => [.slice (some ⟨b, o, none⟩) n c, v3, v4, v5]) (L' := fun ns _ => []) (q := fun ns ls => [(true, Value.bool (decide ((n : Int) < (n : Int))) = .bool false)])
    (fun ns ls => by kernel_rfl) (fun ns ls => by kernel_rfl) (fun ns ls => ⟨by rw [decide_eq_false (by omega)], fun a' W' hK' hR' => hQ a' W' hK' hR'⟩)

theorem slotW6 {b o n c i : Nat} {v3 v4 v5 : Value} {a' : Act} (h : Ev.Known 121 (slW1 b o n c i v3 v4 v5) a') : (intOf (a'.tmps.getD 6 undef)).toNat = i := by
  have := h.get (6, .int .i64 i) (by simp [slW1])
  simp only at this
  rw [this]; rfl

noncomputable def loopW1 (b o c : Nat) (l : List I) (v3 v4 v5 : Value) : Ex.LoopC :=
  ⟨.loop bodyW1, 121, slW1 b o l.length c 0 v3 v4 v5, Ex.readM [(b, .seg o (insCells l))], .exit 0, fun _ => (slW1 b o l.length c 0 v3 v4 v5).take 4⟩
theorem loopW1_met (b o c : Nat) (l : List I) (v3 v4 v5 : Value) (hn : l.length ≤ 16384) (hfit : ∀ i ∈ l, i.fit) (hall : ∀ i ∈ l, fitsI i = true) : Ex.MeetsL Try.prog (loopW1 b o c l v3 v4 v5) := by
  intro a0 W hK0 hpre
  show (Code.loop bodyW1).wp _ _ _ _
  refine wp_loop (fun a wr => ∃ k : Nat, k ≤ l.length ∧ Ev.Known 121 (slW1 b o l.length c k v3 v4 v5) a ∧ Ex.Rep W (fun _ => True) (Ex.E0 [segB b o l] none) wr)
    (fun a _ => l.length - (intOf (a.tmps.getD 6 undef)).toNat) ?_ ?_
  · exact ⟨0, by omega, hK0, seg_rep hpre.1⟩
  · rintro a wr ⟨k, hk, hK, hR⟩
    by_cases hlt : k < l.length
    · have he : l[k]? = some l[k] := List.getElem?_eq_getElem hlt
      refine roundW1_good l l[k] b o c k v3 v4 v5 hn he (hfit _ (List.getElem_mem hlt)) (hall _ (List.getElem_mem hlt)) hK hR fun a' W' hK' hR' => ?_
      refine ⟨⟨k + 1, by omega, hK', hR'⟩, ?_⟩
      rw [slotW6 hK', slotW6 hK]
      omega
    · have : k = l.length := by omega
      subst this
      refine roundW1_end b o _ c v3 v4 v5 hK hR fun a' W' hK' hR' => ?_
      simp only [Exit.then]
      exact ⟨rfl, [], hK', Ex.post_read hR'.below⟩

noncomputable def loopW1b (b o c : Nat) (l : List I) (at_ : Nat) : Ex.LoopC :=
  ⟨.loop bodyW1, 121, slW1 b o l.length c 0 (.slice none 0 0) (.int .i64 at_) (.int .i64 7), Ex.readM [(b, .seg o (insCells l))], .ret, fun _ => [(2, .bool true)]⟩
theorem loopW1b_met (b o c : Nat) (l : List I) (at_ : Nat) (hn : l.length ≤ 16384) (hfit : ∀ i ∈ l, i.fit) (i : I) (hat : l[at_]? = some i) (hbad : fitsI i = false) (hall : ∀ k j, k < at_ → l[k]? = some j → fitsI j = true) : Ex.MeetsL Try.prog (loopW1b b o c l at_) := by
  intro a0 W hK0 hpre
  show (Code.loop bodyW1).wp _ _ _ _
  have hlat : at_ < l.length := (List.getElem?_eq_some_iff.1 hat).1
  refine wp_loop (fun a wr => ∃ k : Nat, k ≤ at_ ∧ Ev.Known 121 (slW1 b o l.length c k (.slice none 0 0) (.int .i64 at_) (.int .i64 7)) a ∧ Ex.Rep W (fun _ => True) (Ex.E0 [segB b o l] none) wr)
    (fun a _ => l.length - (intOf (a.tmps.getD 6 undef)).toNat) ?_ ?_
  · exact ⟨0, by omega, hK0, seg_rep hpre.1⟩
  · rintro a wr ⟨k, hk, hK, hR⟩
    by_cases hlt : k < at_
    · have he : l[k]? = some (l[k]'(by omega)) := List.getElem?_eq_getElem (by omega)
      refine roundW1_good l _ b o c k _ _ _ hn he (hfit _ (List.mem_of_getElem? he)) (hall k _ hlt he) hK hR fun a' W' hK' hR' => ?_
      refine ⟨⟨k + 1, by omega, hK', hR'⟩, ?_⟩
      rw [slotW6 hK', slotW6 hK]
      omega
    · have : k = at_ := by omega
      subst this
      refine roundW1_bad l i b o c k hat (hfit _ (List.mem_of_getElem? hat)) hbad hK hR fun a' W' hK' hR' => ?_
      simp only [Exit.then]
      exact ⟨rfl, [], hK', Ex.post_read hR'.below⟩

/-! ### The second loop: the words -/

theorem wordsOf_at {l : List I} {k : Nat} {i : I} (hk : l[k]? = some i) : (Cont.seg 0 (wordsOf l)).at (0 + k * 1) = some (wV i) := by
  simp only [Cont.at, Nat.zero_add, Nat.mul_one, Nat.zero_le, if_true, Nat.sub_zero, wordsOf]
  rw [List.getElem?_map, hk]
  rfl

def slW2 (b o n c g cap k : Nat) : List (Nat × Value) := [(0, .slice (some ⟨b, o, none⟩) n c), (3, .slice (some ⟨g, 0, none⟩) n cap), (7, .int .i64 k)]
def ctxW2 (i : I) (k b o g : Nat) (go : Bool) : Ex.Ctx :=
  Ex.mkCtx [21, 24] [fun _ => Ex.plainC 21 #[.agg i.cells] (.agg i.cells), fun _ => Ex.plainC 24 #[.agg i.cells] (wV i)] [(fW, 73), (fW, 86)] [(fW, 79), (fW, 83)]
    [fun _ => .bool go, fun _ => .pointer (some ⟨g, 0 + k * 1, none⟩), fun _ => wV i, fun _ => .pointer (some ⟨b, o + k * 6, none⟩), fun _ => .int .i64 i.op, fun _ => .int .i64 i.rd, fun _ => .int .i64 i.rn, fun _ => .int .i64 i.rm, fun _ => .int .i64 i.imm, fun _ => .int .i64 i.cond, fun _ => .bool false] [] [] [] [(fW, 78), (fW, 82)]
theorem ctxW2_holds (i : I) (hf : fitsI i = true) (k b o g : Nat) (go : Bool) : (ctxW2 i k b o g go).holds Try.prog :=
  Ex.mk_holds (Ex.cons_c (fun _ => Ex.meets_plain fun W => ref_call i W) (Ex.cons_c (fun _ => Ex.meets_plain fun W => rword_call i hf W) Ex.nil_c)) Ex.nil_l

def segW (g : Nat) (l : List I) : Ex.Blk := ⟨g, .seg 0 (wordsOf l), false⟩
def askW2 (l : List I) (i : I) (b o c g cap k : Nat) : List (Bool × Prop) :=
  [(true, Value.bool (decide ((k : Int) < (l.length : Int))) = .bool true),
   (true, ∀ W, (Ex.opV (Instr.indexAt 49 (.slice (some ⟨g, 0, none⟩) l.length cap) (.int .i64 (k : Nat)))).run Try.prog W = .ok (.value (.pointer (some ⟨g, 0 + k * 1, none⟩))) W),
   (true, (Cont.seg 0 (wordsOf l)).at (0 + k * 1) = some (wV i))] ++ (ask41 l i b o l.length c k).drop 1
theorem askW2_ok {l : List I} {i : I} {k : Nat} (hk : l[k]? = some i) (b o c g cap : Nat) : ∀ p ∈ askW2 l i b o c g cap k, p.1 = true ∧ p.2 := by
  have hlt : k < l.length := (List.getElem?_eq_some_iff.1 hk).1
  obtain ⟨ii, z, hi, hz, hs, -⟩ := elemW.info
  intro p hp
  rcases List.mem_append.1 hp with hp | hp
  · simp only [List.mem_cons, List.not_mem_nil, or_false] at hp
    rcases hp with rfl | rfl | rfl
    · exact ⟨rfl, by rw [decide_eq_true (by omega)]⟩
    · exact ⟨rfl, fun W => Ex.index_run elemW.under hi hs g 0 _ cap k hlt W⟩
    · exact ⟨rfl, wordsOf_at hk⟩
  · exact ask41_ok hk b o c p (List.mem_of_mem_drop hp)

theorem roundW2 (l : List I) (i : I) (b o c g cap k : Nat) (hn : l.length ≤ 16384) (hk : l[k]? = some i) (hf : fitsI i = true) {w0 W : World} {a : Act}
    (hK : Ev.Known 121 (slW2 b o l.length c g cap k) a) (hR : Ex.Rep w0 (fun _ => True) (Ex.E0 [segB b o l, segW g l] none) W) {Q : Exit → Act → World → Prop}
    (hQ : ∀ a' W', Ev.Known 121 (slW2 b o l.length c g cap (k + 1)) a' → Ex.Rep w0 (fun _ => True) (Ex.E0 [segB b o l, segW g l] none) W' → Q .normal a' W') : bodyW2.wp Try.prog Q a W := by
  have hlt : k < l.length := (List.getElem?_eq_some_iff.1 hk).1
  refine Ex.wp_run (ctxW2_holds i hf k b o g true) mixed 200 fW
    (Ex.traceP Try.prog (ctxW2 i0 5 1 0 2 true) 200 fW bodyW2 ⟨121, slW2 1 0 7 7 2 7 5⟩ [segB 1 0 [], segW 2 []]) hK hR [0, 3, 7] [0, 1] (by decide) (x := .normal) (m' := 121)
    (vs := fun ns _ => [.slice (some ⟨b, o, none⟩) l.length c, .slice (some ⟨g, 0, none⟩) l.length cap, .int .i64 (IntKind.i64.wrap ((k : Int) + 1))]) (L' := fun ns _ => [segB b o l, segW g l]) (q := fun ns ls => askW2 l i b o c g cap k ++ [(true, Value.bool (!((wordI i : Int) == (wordI i : Int))) = .bool false)])
    (fun ns ls => by kernel_rfl) (fun ns ls => by kernel_rfl) (fun ns ls => holds_app (askW2_ok hk b o c g cap) ⟨by simp, fun a' W' hK' hR' => hQ a' W' ?_ hR'⟩)
  rw [wrap_succ' k _ hlt hn] at hK'
  exact hK'

theorem slotW7 {b o n c g cap i : Nat} {a' : Act} (h : Ev.Known 121 (slW2 b o n c g cap i) a') : (intOf (a'.tmps.getD 7 undef)).toNat = i := by
  have := h.get (7, .int .i64 i) (by simp [slW2])
  simp only at this
  rw [this]; rfl

noncomputable def loopW2 (b o c g cap : Nat) (l : List I) : Ex.LoopC :=
  ⟨.loop bodyW2, 121, slW2 b o l.length c g cap 0, Ex.readM [(b, .seg o (insCells l)), (g, .seg 0 (wordsOf l))], .exit 2, fun _ => (slW2 b o l.length c g cap 0).take 2⟩
theorem loopW2_met (b o c g cap : Nat) (l : List I) (hn : l.length ≤ 16384) (hall : ∀ i ∈ l, fitsI i = true) : Ex.MeetsL Try.prog (loopW2 b o c g cap l) := by
  intro a0 W hK0 hpre
  show (Code.loop bodyW2).wp _ _ _ _
  refine wp_loop (fun a wr => ∃ k : Nat, k ≤ l.length ∧ Ev.Known 121 (slW2 b o l.length c g cap k) a ∧ Ex.Rep W (fun _ => True) (Ex.E0 [segB b o l, segW g l] none) wr)
    (fun a _ => l.length - (intOf (a.tmps.getD 7 undef)).toNat) ?_ ?_
  · exact ⟨0, by omega, hK0, seg_rep hpre.1⟩
  · rintro a wr ⟨k, hk, hK, hR⟩
    by_cases hlt : k < l.length
    · have he : l[k]? = some l[k] := List.getElem?_eq_getElem hlt
      refine roundW2 l l[k] b o c g cap k hn he (hall _ (List.getElem_mem hlt)) hK hR fun a' W' hK' hR' => ?_
      refine ⟨⟨k + 1, by omega, hK', hR'⟩, ?_⟩
      rw [slotW7 hK', slotW7 hK]
      omega
    · have : k = l.length := by omega
      subst this
      refine Ex.wp_run (ctxW2_holds i0 (by kernel_rfl) 0 0 0 0 false) mixed 200 fW (some []) hK hR [0, 3] [] (by decide) (x := .exit 2) (m' := 121)
        (vs := fun ns _ => [.slice (some ⟨b, o, none⟩) l.length c, .slice (some ⟨g, 0, none⟩) l.length cap]) (L' := fun ns _ => []) (q := fun ns ls => [(true, Value.bool (decide ((l.length : Int) < (l.length : Int))) = .bool false)])
        (fun ns ls => by kernel_rfl) (fun ns ls => by kernel_rfl) (fun ns ls => ⟨by rw [decide_eq_false (by omega)], fun a' W' hK' hR' => ?_⟩)
      simp only [Exit.then]
      exact ⟨rfl, [], hK', Ex.post_read hR'.below⟩

/-! ### The third loop: back again -/

def slW3 (b o n c g cap k : Nat) : List (Nat × Value) := [(0, .slice (some ⟨b, o, none⟩) n c), (8, .slice (some ⟨g, 0, none⟩) n cap), (9, .int .i64 k)]
def ctxW3 (i : I) (k b o g : Nat) (go : Bool) : Ex.Ctx :=
  Ex.mkCtx [] [] [(fW, 109)] [(fW, 115), (fW, 119)]
    [fun _ => .bool go, fun _ => .pointer (some ⟨g, 0 + k * 6, none⟩), fun _ => .int .i64 i.op, fun _ => .int .i64 i.rd, fun _ => .int .i64 i.rn, fun _ => .int .i64 i.rm, fun _ => .int .i64 i.imm, fun _ => .int .i64 i.cond, fun _ => .pointer (some ⟨b, o + k * 6, none⟩), fun _ => .int .i64 i.op, fun _ => .int .i64 i.rd, fun _ => .int .i64 i.rn, fun _ => .int .i64 i.rm, fun _ => .int .i64 i.imm, fun _ => .int .i64 i.cond, fun _ => .bool false] [] [] [] [(fW, 114), (fW, 118), (fW, 120)]
theorem ctxW3_holds (i : I) (k b o g : Nat) (go : Bool) : (ctxW3 i k b o g go).holds Try.prog := Ex.mk_holds Ex.nil_c Ex.nil_l
def segX (g : Nat) (l : List I) : Ex.Blk := ⟨g, .seg 0 (insCells l), false⟩

theorem roundW3 (l : List I) (i : I) (b o c g cap k : Nat) (hn : l.length ≤ 16384) (hk : l[k]? = some i) {w0 W : World} {a : Act}
    (hK : Ev.Known 121 (slW3 b o l.length c g cap k) a) (hR : Ex.Rep w0 (fun _ => True) (Ex.E0 [segB b o l, segX g l] none) W) {Q : Exit → Act → World → Prop}
    (hQ : ∀ a' W', Ev.Known 121 (slW3 b o l.length c g cap (k + 1)) a' → Ex.Rep w0 (fun _ => True) (Ex.E0 [segB b o l, segX g l] none) W' → Q .normal a' W') : bodyW3.wp Try.prog Q a W := by
  have hlt : k < l.length := (List.getElem?_eq_some_iff.1 hk).1
  refine Ex.wp_run (ctxW3_holds i k b o g true) mixed 200 fW
    (Ex.traceP Try.prog (ctxW3 i0 5 1 0 2 true) 200 fW bodyW3 ⟨121, slW3 1 0 7 7 2 7 5⟩ [segB 1 0 [], segX 2 []]) hK hR [0, 8, 9] [0, 1] (by decide) (x := .normal) (m' := 121)
    (vs := fun ns _ => [.slice (some ⟨b, o, none⟩) l.length c, .slice (some ⟨g, 0, none⟩) l.length cap, .int .i64 (IntKind.i64.wrap ((k : Int) + 1))]) (L' := fun ns _ => [segB b o l, segX g l])
    (q := fun ns ls => ask41 l i g 0 l.length cap k ++ ((ask41 l i b o l.length c k).drop 1 ++ [(true, ∀ W, (eqSem .neq 25 (.tmp 115) (.tmp 119) (.agg i.cells) (.agg i.cells)).run Try.prog W = .ok (.value (.bool false)) W)]))
    (fun ns ls => by kernel_rfl) (fun ns ls => by kernel_rfl) (fun ns ls => holds_app (ask41_ok hk g 0 cap) (holds_app (fun p hp => ask41_ok hk b o c p (List.mem_of_mem_drop hp)) ⟨fun W => neq_ins _ _ _ W, fun a' W' hK' hR' => hQ a' W' ?_ hR'⟩))
  rw [wrap_succ' k _ hlt hn] at hK'
  exact hK'

theorem slotW9 {b o n c g cap i : Nat} {a' : Act} (h : Ev.Known 121 (slW3 b o n c g cap i) a') : (intOf (a'.tmps.getD 9 undef)).toNat = i := by
  have := h.get (9, .int .i64 i) (by simp [slW3])
  simp only at this
  rw [this]; rfl

noncomputable def loopW3 (b o c g cap : Nat) (l : List I) : Ex.LoopC :=
  ⟨.loop bodyW3, 121, slW3 b o l.length c g cap 0, Ex.readM [(b, .seg o (insCells l)), (g, .seg 0 (insCells l))], .exit 4, fun _ => []⟩
theorem loopW3_met (b o c g cap : Nat) (l : List I) (hn : l.length ≤ 16384) : Ex.MeetsL Try.prog (loopW3 b o c g cap l) := by
  intro a0 W hK0 hpre
  show (Code.loop bodyW3).wp _ _ _ _
  refine wp_loop (fun a wr => ∃ k : Nat, k ≤ l.length ∧ Ev.Known 121 (slW3 b o l.length c g cap k) a ∧ Ex.Rep W (fun _ => True) (Ex.E0 [segB b o l, segX g l] none) wr)
    (fun a _ => l.length - (intOf (a.tmps.getD 9 undef)).toNat) ?_ ?_
  · exact ⟨0, by omega, hK0, seg_rep hpre.1⟩
  · rintro a wr ⟨k, hk, hK, hR⟩
    by_cases hlt : k < l.length
    · have he : l[k]? = some l[k] := List.getElem?_eq_getElem hlt
      refine roundW3 l l[k] b o c g cap k hn he hK hR fun a' W' hK' hR' => ?_
      refine ⟨⟨k + 1, by omega, hK', hR'⟩, ?_⟩
      rw [slotW9 hK', slotW9 hK]
      omega
    · have : k = l.length := by omega
      subst this
      refine Ex.wp_run (ctxW3_holds i0 0 0 0 0 false) mixed 200 fW (some []) hK hR [] [] (by decide) (x := .exit 4) (m' := 121)
        (vs := fun ns _ => []) (L' := fun ns _ => []) (q := fun ns ls => [(true, Value.bool (decide ((l.length : Int) < (l.length : Int))) = .bool false)])
        (fun ns ls => by kernel_rfl) (fun ns ls => by kernel_rfl) (fun ns ls => ⟨by rw [decide_eq_false (by omega)], fun a' W' hK' hR' => ?_⟩)
      simp only [Exit.then]
      exact ⟨rfl, [], hK', Ex.post_read hR'.below⟩

end Go.Proofs.Ytjcebkkmpgafkaa

