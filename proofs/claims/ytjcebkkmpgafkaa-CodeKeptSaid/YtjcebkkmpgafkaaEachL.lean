/-
  code.List: any list of words.
-/
import Derived.Test.YtjcebkkmpgafkaaEach
namespace Go.Proofs.Ytjcebkkmpgafkaa
open Go Go.RowKit
open Ex (Cont num)

def decI (x : Nat) : Option I := (decR x).map fun k => asR k x
def xV (x : Nat) : Value := .int .u32 (x : Nat)
def jOf (x : Nat) : I := (decI x).getD ⟨0, 0, 0, 0, 0, 0⟩
def jV (x : Nat) : List Value := (jOf x).cells.toList
def numCells (l : List Nat) : List Value := l.flatMap fun x => [xV x]
theorem num_at {l : List Nat} {k : Nat} {x : Nat} (hk : l[k]? = some x) (o : Nat) : (Cont.seg o (numCells l)).at (o + k * 1) = some (xV x) := by
  have := seg_at (o := o) (k := k) (sz := 1) (j := 0) (xs := numCells l)
  rw [Nat.add_zero] at this
  rw [this]
  exact flat_get (fun x : Nat => [xV x]) 1 (fun _ => rfl) l k 0 x (by omega) hk

theorem dec_good {x : Nat} {j : I} (hx : x < 4294967296) (h : decI x = some j) (W : World) : Calls Try.prog 16 #[.int .u32 x] W fun e W' => e = .returned (.tuple #[.agg (jOf x).cells, .int .i64 0]) ∧ Below W.heap.size W W' := by
  unfold jOf
  rw [h]
  unfold decI at h
  have c1 := cdec_any x hx W
  cases hd : decR x with
  | none => rw [hd] at h; cases h
  | some k =>
    rw [hd] at h
    injection h with h
    subst h
    rw [cdec_hit x k hx hd] at c1
    exact c1
theorem dec_bad {x : Nat} (hx : x < 4294967296) (h : decI x = none) (W : World) : Calls Try.prog 16 #[.int .u32 x] W fun e W' => e = .returned (.tuple #[.agg #[.int .i64 0, .int .i64 0, .int .i64 0, .int .i64 0, .int .i64 0, .int .i64 0], .int .i64 7]) ∧ Below W.heap.size W W' := by
  have c1 := cdec_any x hx W
  have hd : decR x = none := by
    unfold decI at h
    simpa using h
  rw [cdec_none x hx hd] at c1
  exact c1
def fEb : FuncId := 40

def sl40 (b o n c k : Nat) (v : Value) : List (Nat × Value) := [(1, .func (.func 16) #[] #[]), (14, .slice (some ⟨b, o, none⟩) n c), (15, .int .i64 n), (16, .int .i64 k), (4, v)]
noncomputable def body40 : Code := Ex.loopBody Try.f40 0

def row40 (x : Nat) (e : Value) (k b o : Nat) (use : List (Nat × Cont)) (xs : List Value) (go : Bool) : Ex.Ctx :=
  Ex.mkCtx [16] [fun _ => Ex.plainC 16 #[.int .u32 (x : Nat)] e] [(fEb, 17)] [(fEb, 20)]
    [fun _ => .bool go, fun _ => .pointer (some ⟨b, o + k * 1, none⟩), fun _ => xV x] [] [] []
    [(fEb, 19)] [(fEb, 34)] [fun h => Ex.appC [(num h 0, .obj (.cells (jOf x).cells 25 (0, 0)))] use 25 6 k 1 (xs ++ jV x)]

theorem row40_holds (x : Nat) (e : Value) (he : ∀ W, Calls Try.prog 16 #[.int .u32 x] W fun en W' => en = .returned e ∧ Below W.heap.size W W') (k b o : Nat) (use : List (Nat × Cont)) (xs : List Value) (go : Bool) : (row40 x e k b o use xs go).holds Try.prog :=
  Ex.mk_holds (Ex.cons_c (fun _ => Ex.meets_plain he) Ex.nil_c) Ex.nil_l

/-- What a round asks of the list's element number k. -/
def ask40 (l : List Nat) (x : Nat) (b o n c k : Nat) : List (Bool × Prop) :=
  [(true, Value.bool (decide ((k : Int) < (n : Int))) = .bool true),
   (true, ∀ W, (Ex.opV (Instr.indexAt 49 (.slice (some ⟨b, o, none⟩) n c) (.int .i64 (k : Nat)))).run Try.prog W = .ok (.value (.pointer (some ⟨b, o + k * 1, none⟩))) W),
   (true, (Cont.seg o (numCells l)).at (o + k * 1) = some (xV x))]

theorem ask40_ok {l : List Nat} {x : Nat} {k : Nat} (hk : l[k]? = some x) (b o c : Nat) : ∀ p ∈ ask40 l x b o l.length c k, p.1 = true ∧ p.2 := by
  have hlt : k < l.length := (List.getElem?_eq_some_iff.1 hk).1
  obtain ⟨ii, z, hi, hz, hs, -⟩ := elemW.info
  intro p hp
  simp only [ask40, List.mem_cons, List.not_mem_nil, or_false] at hp
  rcases hp with rfl | rfl | rfl
  · exact ⟨rfl, by rw [decide_eq_true (by omega)]⟩
  · exact ⟨rfl, fun W => Ex.index_run elemW.under hi hs b o _ c k hlt W⟩
  · exact ⟨rfl, num_at hk o⟩

def zI : Value := .agg #[.int .i64 0, .int .i64 0, .int .i64 0, .int .i64 0, .int .i64 0, .int .i64 0]
def segN (b o : Nat) (l : List Nat) : Ex.Blk := ⟨b, .seg o (numCells l), false⟩
def rowI (g k cap : Nat) (xs : List Value) : Ex.Blk := ⟨g, .row 25 6 k cap xs, true⟩

theorem jV_one (x : Nat) : ∀ u ∈ jV x, u.oneCell' = true := fun u hu => by
  simp only [jV, I.cells, List.mem_cons, List.not_mem_nil, or_false] at hu
  rcases hu with rfl | rfl | rfl | rfl | rfl | rfl <;> rfl
theorem jV_at (x : Nat) : ∀ (j : Nat) (u : Value), (jV x)[j]? = some u → (Cont.obj (.cells (jOf x).cells 25 (0, 0))).at (0 + j) = some u := fun j u hu => by
  rw [Nat.zero_add]
  exact hu

/-- The first round: nothing has been appended yet. -/
theorem round40_a (l : List Nat) (x : Nat) (b o c : Nat) (hk : l[0]? = some x) {j : I} (hi : x < 4294967296) (hf : decI x = some j) {w0 W : World} {a : Act}
    (hK : Ev.Known 37 (sl40 b o l.length c 0 (.slice none 0 0)) a) (hR : Ex.Rep w0 (fun _ => True) (Ex.E0 [segN b o l] none) W) {Q : Exit → Act → World → Prop}
    (hQ : ∀ g cap a' W', Ev.Known 37 (sl40 b o l.length c 1 (.slice (some ⟨g, 0, none⟩) 1 cap)) a' → Ex.Rep w0 (fun _ => True) (Ex.E0 [segN b o l, rowI g 1 cap (jV x)] none) W' → Q .normal a' W') : body40.wp Try.prog Q a W := by
  refine Ex.wp_run (row40_holds x _ (dec_good hi hf) 0 b o [] [] true) mixed 200 fEb
    (Ex.traceP Try.prog (row40 0 (.tuple #[zI, .int .i64 0]) 0 1 0 [] [] true) 200 fEb body40 ⟨37, sl40 1 0 7 7 0 (.slice none 0 0)⟩ [segN 1 0 []]) hK hR [1, 14, 15, 16, 4] [3, 0] (by decide) (x := .normal) (m' := 37)
    (vs := fun ns _ => (sl40 b o l.length c 1 (.slice (some ⟨ns 2, 0, none⟩) 1 (ns 3))).map Prod.snd) (L' := fun ns _ => [segN b o l, rowI (ns 2) 1 (ns 3) (jV x)])
    (q := fun ns ls => ask40 l x b o l.length c 0 ++ [(true, Ex.OpMeets Try.prog (Ex.appSem 50 50 (.slice none 0 0) (.slice (some ⟨ns 1, 0, none⟩) 1 1)) (Ex.appC [(ns 1, .obj (.cells (jOf x).cells 25 (0, 0)))] [] 25 6 0 1 (jV x))), (false, 1 ≤ ns 3)])
    (fun ns ls => by kernel_rfl) (fun ns ls => by kernel_rfl) (fun ns ls => holds_app (ask40_ok hk b o c) ⟨?_, fun _ a' W' hK' hR' => hQ _ _ a' W' hK' hR'⟩)
  exact Ex.app_met elemI (xs := []) (.inl ⟨rfl, rfl, rfl, rfl⟩) rfl (by omega) (jV_one x) (by simp only [maxLen]; omega) (by omega) (jV_at x)

/-- A later round. -/
theorem round40_b (l : List Nat) (x : Nat) (b o c k g cap : Nat) (xs : List Value) (hn : l.length ≤ 16384) (hk : l[k]? = some x) {j : I} (hi : x < 4294967296) (hf : decI x = some j) {w0 W : World} {a : Act}
    (hK : Ev.Known 37 (sl40 b o l.length c k (.slice (some ⟨g, 0, none⟩) k cap)) a) (hR : Ex.Rep w0 (fun _ => True) (Ex.E0 [segN b o l, rowI g k cap xs] none) W) {Q : Exit → Act → World → Prop}
    (hQ : ∀ g' cap' a' W', Ev.Known 37 (sl40 b o l.length c (k + 1) (.slice (some ⟨g', 0, none⟩) (k + 1) cap')) a' → Ex.Rep w0 (fun _ => True) (Ex.E0 [segN b o l, rowI g' (k + 1) cap' (xs ++ jV x)] none) W' → Q .normal a' W') : body40.wp Try.prog Q a W := by
  have hlt : k < l.length := (List.getElem?_eq_some_iff.1 hk).1
  refine Ex.wp_run (row40_holds x _ (dec_good hi hf) k b o [(g, .row 25 6 k cap xs)] xs true) mixed 200 fEb
    (Ex.traceP Try.prog (row40 0 (.tuple #[zI, .int .i64 0]) 5 1 0 [(2, .row 25 6 5 7 [])] [] true) 200 fEb body40 ⟨37, sl40 1 0 7 7 5 (.slice (some ⟨2, 0, none⟩) 5 7)⟩ [segN 1 0 [], rowI 2 5 7 []]) hK hR [1, 14, 15, 16, 4] [3, 0] (by decide) (x := .normal) (m' := 37)
    (vs := fun ns _ => [.func (.func 16) #[] #[], .slice (some ⟨b, o, none⟩) l.length c, .int .i64 l.length, .int .i64 (IntKind.i64.wrap ((k : Int) + 1)), .slice (some ⟨ns 2, 0, none⟩) (k + 1) (ns 3)]) (L' := fun ns _ => [segN b o l, rowI (ns 2) (k + 1) (ns 3) (xs ++ jV x)])
    (q := fun ns ls => ask40 l x b o l.length c k ++ [(true, Ex.OpMeets Try.prog (Ex.appSem 50 50 (.slice (some ⟨g, 0, none⟩) k cap) (.slice (some ⟨ns 1, 0, none⟩) 1 1)) (Ex.appC [(ns 1, .obj (.cells (jOf x).cells 25 (0, 0)))] [(g, .row 25 6 k cap xs)] 25 6 k 1 (xs ++ jV x))), (false, k + 1 ≤ ns 3)])
    (fun ns ls => by kernel_rfl) (fun ns ls => by kernel_rfl) (fun ns ls => holds_app (ask40_ok hk b o c) ⟨?_, fun _ a' W' hK' hR' => hQ _ _ a' W' ?_ hR'⟩)
  · exact Ex.app_met elemI (.inr ⟨g, cap, rfl, rfl⟩) rfl (by omega) (jV_one x) (by simp only [maxLen]; omega) (by omega) (jV_at x)
  · rw [IntWalk.i64_in _ (by omega)] at hK'
    exact hK'

/-- An instruction that has no word: the end. -/
theorem round40_c (l : List Nat) (x : Nat) (b o c k : Nat) (v : Value) (hk : l[k]? = some x) (hi : x < 4294967296) (hf : decI x = none) {w0 W : World} {a : Act}
    (hK : Ev.Known 37 (sl40 b o l.length c k v) a) (hR : Ex.Rep w0 (fun _ => True) (Ex.E0 [segN b o l] none) W) {Q : Exit → Act → World → Prop}
    (hQ : ∀ a' W', Ev.Known 37 [(4, .slice none 0 0), (5, .int .i64 k), (6, .int .i64 7)] a' → Ex.Rep w0 (fun _ => True) (Ex.E0 [] none) W' → Q .ret a' W') : body40.wp Try.prog Q a W := by
  exact Ex.wp_run (row40_holds x _ (dec_bad hi hf) k b o [] [] true) mixed 200 fEb
    (Ex.traceP Try.prog (row40 0 (.tuple #[zI, .int .i64 7]) 5 1 0 [] [] true) 200 fEb body40 ⟨37, sl40 1 0 7 7 5 (.slice none 0 0)⟩ [segN 1 0 []]) hK hR [4, 5, 6] [] (by decide) (x := .ret) (m' := 37)
    (vs := fun ns _ => [.slice none 0 0, .int .i64 k, .int .i64 7]) (L' := fun ns _ => []) (q := fun ns ls => ask40 l x b o l.length c k ++ [])
    (fun ns ls => by kernel_rfl) (fun ns ls => by kernel_rfl) (fun ns ls => holds_app (ask40_ok hk b o c) (fun a' W' hK' hR' => hQ a' W' hK' hR'))

theorem dec0 : decI 0 = none := by kernel_rfl

/-- All have been looked at. -/
theorem round40_d (b o n c : Nat) (v : Value) {L : List Ex.Blk} {w0 W : World} {a : Act}
    (hK : Ev.Known 37 (sl40 b o n c n v) a) (hR : Ex.Rep w0 (fun _ => True) (Ex.E0 L none) W) {Q : Exit → Act → World → Prop}
    (hQ : ∀ a' W', Ev.Known 37 [(4, v)] a' → Ex.Rep w0 (fun _ => True) (Ex.E0 (Ex.pickL L [0, 1]) none) W' → Q (.exit 0) a' W') : body40.wp Try.prog Q a W := by
  exact Ex.wp_run (S := row40 0 (.tuple #[.agg #[.int .i64 0, .int .i64 0, .int .i64 0, .int .i64 0, .int .i64 0, .int .i64 0], .int .i64 7]) 0 0 0 [] [] false) (row40_holds 0 _ (dec_bad (by omega) dec0) 0 0 0 [] [] false) mixed 200 fEb
    (some []) hK hR [4] [0, 1] (by decide) (x := .exit 0) (m' := 37)
    (vs := fun ns _ => [v]) (L' := fun ns _ => Ex.pickL L [0, 1]) (q := fun ns ls => [(true, Value.bool (decide ((n : Int) < (n : Int))) = .bool false)])
    (fun ns ls => by kernel_rfl) (fun ns ls => by kernel_rfl) (fun ns ls => ⟨by rw [decide_eq_false (by omega)], fun a' W' hK' hR' => hQ a' W' hK' hR'⟩)

/-! ### The loop -/

def insOf (l : List Nat) : List Value := l.flatMap jV

noncomputable def goodM (b o c : Nat) (l : List Nat) : Ex.LoopC :=
  ⟨.loop body40, 37, sl40 b o l.length c 0 (.slice none 0 0), ⟨[(b, .seg o (numCells l))], [], 2, fun ns => l.length ≤ num ns 1, fun ns => [(num ns 0, .row 25 6 l.length (num ns 1) (insOf l))]⟩, .exit 0,
   fun ns => [(4, .slice (some ⟨num ns 0, 0, none⟩) l.length (num ns 1))]⟩

theorem slot16b {b o n c i : Nat} {v : Value} {a' : Act} (h : Ev.Known 37 (sl40 b o n c i v) a') : (intOf (a'.tmps.getD 16 undef)).toNat = i := by
  have := h.get (16, .int .i64 i) (by simp [sl40])
  simp only at this
  rw [this]; rfl

theorem take_snocb {l : List Nat} {k : Nat} {x : Nat} (h : l[k]? = some x) : insOf (l.take (k + 1)) = insOf (l.take k) ++ jV x := by
  obtain ⟨hlt, he⟩ := List.getElem?_eq_some_iff.1 h
  rw [List.take_succ_eq_append_getElem hlt, he]
  simp [insOf]

theorem goodm_met (b o c : Nat) (l : List Nat) (h0 : 0 < l.length) (hn : l.length ≤ 16384) (hfit : ∀ x ∈ l, x < 4294967296) (hall : ∀ x ∈ l, ∃ j, decI x = some j) : Ex.MeetsL Try.prog (goodM b o c l) := by
  intro a W hK hpre
  show (Code.loop body40).wp _ _ _ _
  refine wp_loop (fun a wr => ∃ k : Nat, k ≤ l.length ∧
      ((k = 0 ∧ Ev.Known 37 (sl40 b o l.length c 0 (.slice none 0 0)) a ∧ Ex.Rep W (fun _ => True) (Ex.E0 [segN b o l] none) wr) ∨
       (0 < k ∧ ∃ g cap, Ev.Known 37 (sl40 b o l.length c k (.slice (some ⟨g, 0, none⟩) k cap)) a ∧ Ex.Rep W (fun _ => True) (Ex.E0 [segN b o l, rowI g k cap (insOf (l.take k))] none) wr)))
    (fun a _ => l.length - (intOf (a.tmps.getD 16 undef)).toNat) ?_ ?_
  · exact ⟨0, by omega, .inl ⟨rfl, hK, seg_rep hpre.1⟩⟩
  · rintro a wr ⟨k, hk, ⟨rfl, hK, hR⟩ | ⟨hk0, g, cap, hK, hR⟩⟩
    · have he : l[0]? = some l[0] := List.getElem?_eq_getElem h0
      refine round40_a l l[0] b o c he (hfit _ (List.getElem_mem h0)) (hall _ (List.getElem_mem h0)).choose_spec hK hR fun g cap a' W' hK' hR' => ?_
      refine ⟨⟨1, by omega, .inr ⟨by omega, g, cap, hK', by rw [take_snocb he]; exact hR'⟩⟩, ?_⟩
      rw [slot16b hK', slot16b hK]
      omega
    · by_cases hlt : k < l.length
      · have he : l[k]? = some l[k] := List.getElem?_eq_getElem hlt
        refine round40_b l l[k] b o c k g cap _ hn he (hfit _ (List.getElem_mem hlt)) (hall _ (List.getElem_mem hlt)).choose_spec hK hR fun g' cap' a' W' hK' hR' => ?_
        refine ⟨⟨k + 1, by omega, .inr ⟨by omega, g', cap', hK', by rw [take_snocb he]; exact hR'⟩⟩, ?_⟩
        rw [slot16b hK', slot16b hK]
        omega
      · have : k = l.length := by omega
        subst this
        refine round40_d b o _ c _ hK hR fun a' W' hK' hR' => ?_
        simp only [Exit.then]
        rw [List.take_length] at hR'
        obtain ⟨h1, h2⟩ := new_row (g := g) (ct := .row 25 6 l.length cap (insOf l)) hR' (by simp [Ex.pickL, rowI])
        have hb := hR'.below
        refine ⟨rfl, [(g, []), (cap, [])], hK', rfl, ?_, hb.os, hb.tape, hb.output, hb.size, fun k hk _ => hb.block k hk, fun p hp => ?_, by simp [goodM]⟩
        · obtain ⟨cur, -, -, h, -⟩ := h2
          exact h
        · rcases List.mem_singleton.1 hp with rfl
          exact ⟨.inl h1, h2⟩

noncomputable def badM (b o c : Nat) (l : List Nat) (at_ : Nat) : Ex.LoopC :=
  ⟨.loop body40, 37, sl40 b o l.length c 0 (.slice none 0 0), Ex.readM [(b, .seg o (numCells l))], .ret, fun _ => [(4, .slice none 0 0), (5, .int .i64 at_), (6, .int .i64 7)]⟩

theorem badm_met (b o c : Nat) (l : List Nat) (at_ : Nat) (hn : l.length ≤ 16384) (hfit : ∀ x ∈ l, x < 4294967296) (x : Nat) (hat : l[at_]? = some x) (hbad : decI x = none) (hall : ∀ k y, k < at_ → l[k]? = some y → ∃ j, decI y = some j) : Ex.MeetsL Try.prog (badM b o c l at_) := by
  intro a0 W hK0 hpre
  show (Code.loop body40).wp _ _ _ _
  have hlat : at_ < l.length := (List.getElem?_eq_some_iff.1 hat).1
  have hfi : x < 4294967296 := hfit _ (List.mem_of_getElem? hat)
  have fin : ∀ {m : Nat} {a' : Act} {W' : World}, Ev.Known 37 [(4, .slice none 0 0), (5, .int .i64 at_), (6, .int .i64 7)] a' → Ex.Rep W (fun _ => True) (Ex.E0 [] none) W' → (Exit.ret = (badM b o c l at_).x ∧ ∃ ns, Ev.Known (badM b o c l at_).n ((badM b o c l at_).out ns) a' ∧ (badM b o c l at_).mem.post W W' ns) := fun hK' hR' =>
    ⟨rfl, [], hK', Ex.post_read hR'.below⟩
  refine wp_loop (fun a wr => ∃ k : Nat, k ≤ at_ ∧
      ((k = 0 ∧ Ev.Known 37 (sl40 b o l.length c 0 (.slice none 0 0)) a ∧ Ex.Rep W (fun _ => True) (Ex.E0 [segN b o l] none) wr) ∨
       (0 < k ∧ ∃ g cap, Ev.Known 37 (sl40 b o l.length c k (.slice (some ⟨g, 0, none⟩) k cap)) a ∧ Ex.Rep W (fun _ => True) (Ex.E0 [segN b o l, rowI g k cap (insOf (l.take k))] none) wr)))
    (fun a _ => l.length - (intOf (a.tmps.getD 16 undef)).toNat) ?_ ?_
  · exact ⟨0, by omega, .inl ⟨rfl, hK0, seg_rep hpre.1⟩⟩
  · rintro a wr ⟨k, hk, ⟨rfl, hK, hR⟩ | ⟨hk0, g, cap, hK, hR⟩⟩
    · by_cases h0 : at_ = 0
      · subst h0
        refine round40_c l x b o c 0 _ hat hfi hbad hK hR fun a' W' hK' hR' => ?_
        simp only [Exit.then]
        exact fin (m := 0) hK' hR'
      · have he : l[0]? = some (l[0]'(by omega)) := List.getElem?_eq_getElem (by omega)
        refine round40_a l _ b o c he (hfit _ (List.mem_of_getElem? he)) (hall 0 _ (by omega) he).choose_spec hK hR fun g cap a' W' hK' hR' => ?_
        refine ⟨⟨1, by omega, .inr ⟨by omega, g, cap, hK', by rw [take_snocb he]; exact hR'⟩⟩, ?_⟩
        rw [slot16b hK', slot16b hK]
        omega
    · by_cases hlt : k < at_
      · have he : l[k]? = some (l[k]'(by omega)) := List.getElem?_eq_getElem (by omega)
        refine round40_b l _ b o c k g cap _ hn he (hfit _ (List.mem_of_getElem? he)) (hall k _ hlt he).choose_spec hK hR fun g' cap' a' W' hK' hR' => ?_
        refine ⟨⟨k + 1, by omega, .inr ⟨by omega, g', cap', hK', by rw [take_snocb he]; exact hR'⟩⟩, ?_⟩
        rw [slot16b hK', slot16b hK]
        omega
      · have : k = at_ := by omega
        subst this
        have hR2 : Ex.Rep W (fun _ => True) (Ex.E0 [segN b o l] none) wr := (hR.sub (L := [segN b o l]) (by simp [Ex.E0])).of_eq rfl
        refine round40_c l x b o c k _ hat hfi hbad hK hR2 fun a' W' hK' hR' => ?_
        simp only [Exit.then]
        exact fin (m := 0) hK' hR'

/-! ### List -/

def fList : FuncId := 27

noncomputable def ctxV (long : Bool) (lp : List (Ex.Hist → Ex.LoopC)) : Ex.Ctx := Ex.mkCtx [] [] [(fEb, 13)] [] (bound long) [fEb] lp

theorem list_long (A : Option Addr) (n c : Nat) (h : 16384 < n) : Ex.Meets Try.prog (Ex.plainC fList #[.slice A n c] (.tuple #[.slice none 0 0, .int .i64 16384, .int .i64 2])) :=
  Ex.meets_plain fun W => Ex.calls_value (S := ctxV true []) (Ex.mk_holds Ex.nil_c Ex.nil_l) mixed 100 _ (fun _ _ => [(true, Value.bool (decide ((16384 : Int) < (n : Int))) = .bool true)]) (fun ns ls => by kernel_rfl) (fun ns ls => by kernel_rfl) (fun _ _ => ⟨by rw [decide_eq_true (by omega)], trivial⟩) W

theorem list_none (A : Option Addr) (c : Nat) : Ex.Meets Try.prog (Ex.plainC fList #[.slice A 0 c] (.tuple #[.slice none 0 0, .int .i64 0, .int .i64 0])) :=
  Ex.meets_plain fun W => Ex.calls_value (S := ctxN) (Ex.mk_holds Ex.nil_c Ex.nil_l) mixed 100 _ (fun _ _ => []) (fun ns ls => by kernel_rfl) (fun ns ls => by kernel_rfl) (fun _ _ => trivial) W

noncomputable def goodV (b o c : Nat) (l : List Nat) : Ex.CallC :=
  ⟨fList, #[.slice (some ⟨b, o, none⟩) l.length c], (goodM b o c l).mem, fun ns => .tuple #[.slice (some ⟨num ns 0, 0, none⟩) l.length (num ns 1), .int .i64 0, .int .i64 0]⟩
noncomputable def badV (b o c : Nat) (l : List Nat) (at_ : Nat) : Ex.CallC :=
  ⟨fList, #[.slice (some ⟨b, o, none⟩) l.length c], (badM b o c l at_).mem, fun _ => .tuple #[.slice none 0 0, .int .i64 at_, .int .i64 7]⟩

theorem list_good (b o c : Nat) (l : List Nat) (h0 : 0 < l.length) (hn : l.length ≤ 16384) (hfit : ∀ x ∈ l, x < 4294967296) (hall : ∀ x ∈ l, ∃ j, decI x = some j) : Ex.Meets Try.prog (goodV b o c l) := by
  intro W hpre
  refine Ex.calls_run (S := ctxV false [fun _ => goodM b o c l]) (Ex.mk_holds Ex.nil_c (Ex.cons_l (fun _ => goodm_met b o c l h0 hn hfit hall) Ex.nil_l)) mixed 100
    (orc := Ex.traceC Try.prog (ctxV false [fun _ => goodM 1 0 7 [0]]) 100 fList #[.slice (some ⟨1, 0, none⟩) 1 7] [segN 1 0 [0]])
    (v := fun ns _ => .tuple #[.slice (some ⟨ns 0, 0, none⟩) l.length (ns 1), .int .i64 0, .int .i64 0]) (L' := fun ns _ => [rowI (ns 0) l.length (ns 1) (insOf l), segN b o l]) (q := fun ns _ => [(true, Value.bool (decide ((16384 : Int) < (l.length : Int))) = .bool false), (false, l.length ≤ ns 1)])
    (fun ns ls => by kernel_rfl) (fun ns ls => by kernel_rfl) (seg_rep hpre.1) (fun ns ls => ⟨by rw [decide_eq_false (by omega)], fun hcap W' hR => ?_⟩)
  obtain ⟨h1, h2⟩ := new_row (g := ns 0) (ct := .row 25 6 l.length (ns 1) (insOf l)) hR (by simp [rowI])
  have hb := hR.below
  refine ⟨[(ns 0, []), (ns 1, [])], rfl, rfl, hcap, hb.os, hb.tape, hb.output, hb.size, fun k hk _ => hb.block k hk, fun p hp => ?_, by simp [goodV, goodM]⟩
  rcases List.mem_singleton.1 hp with rfl
  exact ⟨.inl h1, h2⟩

theorem list_bad (b o c : Nat) (l : List Nat) (at_ : Nat) (hn : l.length ≤ 16384) (hfit : ∀ x ∈ l, x < 4294967296) (x : Nat) (hat : l[at_]? = some x) (hbad : decI x = none) (hall : ∀ k y, k < at_ → l[k]? = some y → ∃ j, decI y = some j) : Ex.Meets Try.prog (badV b o c l at_) := by
  intro W hpre
  refine Ex.calls_run (S := ctxV false [fun _ => badM b o c l at_]) (Ex.mk_holds Ex.nil_c (Ex.cons_l (fun _ => badm_met b o c l at_ hn hfit x hat hbad hall) Ex.nil_l)) mixed 100
    (orc := Ex.traceC Try.prog (ctxV false [fun _ => badM 1 0 7 [0] 0]) 100 fList #[.slice (some ⟨1, 0, none⟩) 1 7] [segN 1 0 [0]])
    (v := fun ns _ => .tuple #[.slice none 0 0, .int .i64 at_, .int .i64 7]) (L' := fun ns _ => [segN b o l]) (q := fun ns _ => [(true, Value.bool (decide ((16384 : Int) < (l.length : Int))) = .bool false)])
    (fun ns ls => by kernel_rfl) (fun ns ls => by kernel_rfl) (seg_rep hpre.1) (fun ns ls => ⟨by rw [decide_eq_false (by omega)], fun W' hR => ?_⟩)
  exact ⟨[], rfl, Ex.post_read hR.below⟩

end Go.Proofs.Ytjcebkkmpgafkaa
