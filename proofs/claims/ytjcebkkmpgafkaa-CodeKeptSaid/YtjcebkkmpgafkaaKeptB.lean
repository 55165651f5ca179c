/-
  CodeKept, the loops that write and the one that compares.
-/
import Derived.Test.YtjcebkkmpgafkaaKeptA
namespace Go.Proofs.Ytjcebkkmpgafkaa
open Go Go.RowKit
open Ex (Cont num)

noncomputable def bodyK1 : Code := Ex.loopBody Try.f13 1
noncomputable def bodyK3 : Code := Ex.loopBody Try.f13 3
noncomputable def bodyK5 : Code := Ex.loopBody Try.f13 5

def lst (ns : List (Nat × List Value)) (j : Nat) : List Value := (ns.getD j (0, [])).2

theorem use_rep {g : Nat} {ct : Cont} {W : World} (h : ct.sat W.heap[g]?) : Ex.Rep W (fun k => k ≠ g) (Ex.E0 [⟨g, ct, true⟩] none) W :=
  ⟨rfl, rfl, rfl, Nat.le_refl _, fun _ _ _ => rfl, fun q hq => by
    rcases List.mem_singleton.1 hq with rfl
    exact ⟨h, fun _ _ h => h rfl⟩, by simp [Ex.E0]⟩

/-! ### Zeros into a row of words -/

def liveA (v3 : Value) (n ga ca : Nat) (v9 : Value) (k : Nat) : List (Nat × Value) := [(3, v3), (5, .int .i64 n), (6, .slice (some ⟨ga, 0, none⟩) n ca), (9, v9), (12, .int .i64 k)]
def ctxK1 (ga n ca k : Nat) (xs : List Value) (go : Bool) : Ex.Ctx :=
  Ex.mkCtx [] [] [(fK, 106)] [] [bV go, ptrV ga (0 + k * 1)] [] [] [] [(fK, 111)] [(fK, 900001)] [fun _ => Ex.putC ga 26 1 n ca xs (0 + k * 1) [.int .u32 0]]
theorem ctxK1_holds (ga n ca k : Nat) (xs : List Value) (go : Bool) : (ctxK1 ga n ca k xs go).holds Try.prog := Ex.mk_holds Ex.nil_c Ex.nil_l
def rowU (g n cap : Nat) (xs : List Value) : Ex.Blk := ⟨g, .row 26 1 n cap xs, true⟩

theorem roundK1 (n ga ca k : Nat) (v3 v9 : Value) (xs : List Value) (hn : n ≤ 100) (hk : k < n) {w0 W : World} {keep : Nat → Prop} {a : Act}
    (hK : Ev.Known 227 (liveA v3 n ga ca v9 k) a) (hR : Ex.Rep w0 keep (Ex.E0 [rowU ga n ca xs] none) W) {Q : Exit → Act → World → Prop}
    (hQ : ∀ xs' a' W', Ev.Known 227 (liveA v3 n ga ca v9 (k + 1)) a' → Ex.Rep w0 keep (Ex.E0 [rowU ga n ca xs'] none) W' → Q .normal a' W') : bodyK1.wp Try.prog Q a W := by
  obtain ⟨ii, z, hi, hz, hs, -⟩ := elemW.info
  refine Ex.wp_run (ctxK1_holds ga n ca k xs true) mixed 200 fK (Ex.traceP Try.prog (ctxK1 2 7 7 5 [] true) 200 fK bodyK1 ⟨227, liveA v3 7 2 7 v9 5⟩ [rowU 2 7 7 []]) hK hR [3, 5, 6, 9, 12] [0] (by decide) (x := .normal) (m' := 227)
    (vs := fun ns _ => [v3, .int .i64 n, .slice (some ⟨ga, 0, none⟩) n ca, v9, .int .i64 (IntKind.i64.wrap ((k : Int) + 1))]) (L' := fun ns _ => [rowU ga n ca (Ex.setAt xs (0 + k * 1) [.int .u32 0])])
    (q := fun ns ls => [(true, Value.bool (decide ((k : Int) < (n : Int))) = .bool true), (true, ∀ W, (Ex.opV (Instr.indexAt 49 (.slice (some ⟨ga, 0, none⟩) n ca) (.int .i64 (k : Nat)))).run Try.prog W = .ok (.value (.pointer (some ⟨ga, 0 + k * 1, none⟩))) W),
      (true, Ex.OpMeets Try.prog (Ex.opU (Instr.storeAt 26 (.pointer (some ⟨ga, 0 + k * 1, none⟩)) (.int .u32 0))) (Ex.putC ga 26 1 n ca xs (0 + k * 1) [.int .u32 0]))])
    (fun ns ls => by kernel_rfl) (fun ns ls => by kernel_rfl) (fun ns ls => ⟨by rw [decide_eq_true (by omega)], fun W => Ex.index_run elemW.under hi hs ga 0 _ ca k hk W, ?_, fun a' W' hK' hR' => hQ _ a' W' ?_ hR'⟩)
  · exact Ex.put_met hi hs rfl rfl (fun u hu => by rcases List.mem_singleton.1 hu with rfl; rfl) (by omega)
  · rw [wrap_succ' k n hk (by omega)] at hK'
    exact hK'

theorem slot12 {n ga ca i : Nat} {v3 v9 : Value} {a' : Act} (h : Ev.Known 227 (liveA v3 n ga ca v9 i) a') : (intOf (a'.tmps.getD 12 undef)).toNat = i := by
  have := h.get (12, .int .i64 i) (by simp [liveA])
  simp only at this
  rw [this]; rfl

noncomputable def zeroA (v3 : Value) (n ga ca : Nat) (v9 : Value) (xs : List Value) : Ex.LoopC :=
  ⟨.loop bodyK1, 227, liveA v3 n ga ca v9 0, ⟨[], [(ga, .row 26 1 n ca xs)], 1, fun _ => True, fun ns => [(ga, .row 26 1 n ca (lst ns 0))]⟩, .exit 2, fun _ => (liveA v3 n ga ca v9 0).take 4⟩
theorem zeroA_met (v3 : Value) (n ga ca : Nat) (v9 : Value) (xs : List Value) (hn : n ≤ 100) : Ex.MeetsL Try.prog (zeroA v3 n ga ca v9 xs) := by
  intro a0 W hK0 hpre
  show (Code.loop bodyK1).wp _ _ _ _
  refine wp_loop (fun a wr => ∃ (k : Nat) (xs' : List Value), k ≤ n ∧ Ev.Known 227 (liveA v3 n ga ca v9 k) a ∧ Ex.Rep W (fun k => k ≠ ga) (Ex.E0 [rowU ga n ca xs'] none) wr)
    (fun a _ => n - (intOf (a.tmps.getD 12 undef)).toNat) ?_ ?_
  · exact ⟨0, xs, by omega, hK0, use_rep (hpre.use _ (List.mem_singleton_self _))⟩
  · rintro a wr ⟨k, xs', hk, hK, hR⟩
    by_cases hlt : k < n
    · refine roundK1 n ga ca k v3 v9 xs' hn hlt hK hR fun xs2 a' W' hK' hR' => ?_
      refine ⟨⟨k + 1, xs2, by omega, hK', hR'⟩, ?_⟩
      rw [slot12 hK', slot12 hK]
      omega
    · obtain rfl : k = n := by omega
      refine Ex.wp_run (ctxK1_holds 0 0 0 0 [] false) mixed 200 fK (some []) hK hR [3, 5, 6, 9] [0] (by decide) (x := .exit 2) (m' := 227)
        (vs := fun ns _ => [v3, .int .i64 k, .slice (some ⟨ga, 0, none⟩) k ca, v9]) (L' := fun ns _ => [rowU ga k ca xs']) (q := fun ns ls => [(true, Value.bool (decide ((k : Int) < (k : Int))) = .bool false)])
        (fun ns ls => by kernel_rfl) (fun ns ls => by kernel_rfl) (fun ns ls => ⟨by rw [decide_eq_false (by omega)], fun a' W' hK' hR' => ?_⟩)
      simp only [Exit.then]
      have hrow := (hR'.blk _ (List.mem_singleton_self _)).1
      refine ⟨rfl, [(0, xs')], hK', rfl, trivial, hR'.os, hR'.tape, hR'.output, hR'.size, fun k hk hno => hR'.old k hk (fun h => hno _ (List.mem_singleton_self _) h.symm), fun p hp => ?_, by simp [zeroA]⟩
      rcases List.mem_singleton.1 hp with rfl
      exact ⟨.inr ⟨_, List.mem_singleton_self _, rfl⟩, hrow⟩

/-! ### Zeros into a row of instructions -/

def liveC (v3 : Value) (n : Nat) (v6 v9 : Value) (gc cc : Nat) (v16 : Value) (k : Nat) : List (Nat × Value) := [(3, v3), (5, .int .i64 n), (6, v6), (9, v9), (14, .slice (some ⟨gc, 0, none⟩) n cc), (16, v16), (18, .int .i64 k)]
def zeros6 : List Value := [.int .i64 0, .int .i64 0, .int .i64 0, .int .i64 0, .int .i64 0, .int .i64 0]
def ctxK3 (gc n cc k : Nat) (xs : List Value) (go : Bool) : Ex.Ctx :=
  Ex.mkCtx [] [] [(fK, 173)] [] [bV go, ptrV gc (0 + k * 6)] [] [] [] [(fK, 179)] [(fK, 900001)] [fun _ => Ex.putC gc 25 6 n cc xs (0 + k * 6) zeros6]
theorem ctxK3_holds (gc n cc k : Nat) (xs : List Value) (go : Bool) : (ctxK3 gc n cc k xs go).holds Try.prog := Ex.mk_holds Ex.nil_c Ex.nil_l

theorem roundK3 (n gc cc k : Nat) (v3 v6 v9 v16 : Value) (xs : List Value) (hn : n ≤ 100) (hk : k < n) {w0 W : World} {keep : Nat → Prop} {a : Act}
    (hK : Ev.Known 227 (liveC v3 n v6 v9 gc cc v16 k) a) (hR : Ex.Rep w0 keep (Ex.E0 [rowF gc n cc xs] none) W) {Q : Exit → Act → World → Prop}
    (hQ : ∀ xs' a' W', Ev.Known 227 (liveC v3 n v6 v9 gc cc v16 (k + 1)) a' → Ex.Rep w0 keep (Ex.E0 [rowF gc n cc xs'] none) W' → Q .normal a' W') : bodyK3.wp Try.prog Q a W := by
  obtain ⟨ii, z, hi, hz, hs, -⟩ := elemI.info
  refine Ex.wp_run (ctxK3_holds gc n cc k xs true) mixed 200 fK (Ex.traceP Try.prog (ctxK3 2 7 7 5 [] true) 200 fK bodyK3 ⟨227, liveC v3 7 v6 v9 2 7 v16 5⟩ [rowF 2 7 7 []]) hK hR [3, 5, 6, 9, 14, 16, 18] [0] (by decide) (x := .normal) (m' := 227)
    (vs := fun ns _ => [v3, .int .i64 n, v6, v9, .slice (some ⟨gc, 0, none⟩) n cc, v16, .int .i64 (IntKind.i64.wrap ((k : Int) + 1))]) (L' := fun ns _ => [rowF gc n cc (Ex.setAt xs (0 + k * 6) zeros6)])
    (q := fun ns ls => [(true, Value.bool (decide ((k : Int) < (n : Int))) = .bool true), (true, ∀ W, (Ex.opV (Instr.indexAt 50 (.slice (some ⟨gc, 0, none⟩) n cc) (.int .i64 (k : Nat)))).run Try.prog W = .ok (.value (.pointer (some ⟨gc, 0 + k * 6, none⟩))) W),
      (true, Ex.OpMeets Try.prog (Ex.opU (Instr.storeAt 25 (.pointer (some ⟨gc, 0 + k * 6, none⟩)) (.agg #[.int .i64 0, .int .i64 0, .int .i64 0, .int .i64 0, .int .i64 0, .int .i64 0]))) (Ex.putC gc 25 6 n cc xs (0 + k * 6) zeros6))])
    (fun ns ls => by kernel_rfl) (fun ns ls => by kernel_rfl) (fun ns ls => ⟨by rw [decide_eq_true (by omega)], fun W => Ex.index_run elemI.under hi hs gc 0 _ cc k hk W, ?_, fun a' W' hK' hR' => hQ _ a' W' ?_ hR'⟩)
  · refine Ex.put_met (vs := zeros6) hi hs rfl rfl (fun u hu => ?_) (by omega)
    simp only [zeros6, List.mem_cons, List.not_mem_nil, or_false] at hu
    rcases hu with rfl | rfl | rfl | rfl | rfl | rfl <;> rfl
  · rw [wrap_succ' k n hk (by omega)] at hK'
    exact hK'

theorem slot18 {n gc cc i : Nat} {v3 v6 v9 v16 : Value} {a' : Act} (h : Ev.Known 227 (liveC v3 n v6 v9 gc cc v16 i) a') : (intOf (a'.tmps.getD 18 undef)).toNat = i := by
  have := h.get (18, .int .i64 i) (by simp [liveC])
  simp only at this
  rw [this]; rfl

noncomputable def zeroC (v3 : Value) (n : Nat) (v6 v9 : Value) (gc cc : Nat) (v16 : Value) (xs : List Value) : Ex.LoopC :=
  ⟨.loop bodyK3, 227, liveC v3 n v6 v9 gc cc v16 0, ⟨[], [(gc, .row 25 6 n cc xs)], 1, fun _ => True, fun ns => [(gc, .row 25 6 n cc (lst ns 0))]⟩, .exit 6, fun _ => (liveC v3 n v6 v9 gc cc v16 0).take 6⟩
theorem zeroC_met (v3 : Value) (n : Nat) (v6 v9 : Value) (gc cc : Nat) (v16 : Value) (xs : List Value) (hn : n ≤ 100) : Ex.MeetsL Try.prog (zeroC v3 n v6 v9 gc cc v16 xs) := by
  intro a0 W hK0 hpre
  show (Code.loop bodyK3).wp _ _ _ _
  refine wp_loop (fun a wr => ∃ (k : Nat) (xs' : List Value), k ≤ n ∧ Ev.Known 227 (liveC v3 n v6 v9 gc cc v16 k) a ∧ Ex.Rep W (fun k => k ≠ gc) (Ex.E0 [rowF gc n cc xs'] none) wr)
    (fun a _ => n - (intOf (a.tmps.getD 18 undef)).toNat) ?_ ?_
  · exact ⟨0, xs, by omega, hK0, use_rep (hpre.use _ (List.mem_singleton_self _))⟩
  · rintro a wr ⟨k, xs', hk, hK, hR⟩
    by_cases hlt : k < n
    · refine roundK3 n gc cc k v3 v6 v9 v16 xs' hn hlt hK hR fun xs2 a' W' hK' hR' => ?_
      refine ⟨⟨k + 1, xs2, by omega, hK', hR'⟩, ?_⟩
      rw [slot18 hK', slot18 hK]
      omega
    · obtain rfl : k = n := by omega
      refine Ex.wp_run (ctxK3_holds 0 0 0 0 [] false) mixed 200 fK (some []) hK hR [3, 5, 6, 9, 14, 16] [0] (by decide) (x := .exit 6) (m' := 227)
        (vs := fun ns _ => [v3, .int .i64 k, v6, v9, .slice (some ⟨gc, 0, none⟩) k cc, v16]) (L' := fun ns _ => [rowF gc k cc xs']) (q := fun ns ls => [(true, Value.bool (decide ((k : Int) < (k : Int))) = .bool false)])
        (fun ns ls => by kernel_rfl) (fun ns ls => by kernel_rfl) (fun ns ls => ⟨by rw [decide_eq_false (by omega)], fun a' W' hK' hR' => ?_⟩)
      simp only [Exit.then]
      have hrow := (hR'.blk _ (List.mem_singleton_self _)).1
      refine ⟨rfl, [(0, xs')], hK', rfl, trivial, hR'.os, hR'.tape, hR'.output, hR'.size, fun k hk hno => hR'.old k hk (fun h => hno _ (List.mem_singleton_self _) h.symm), fun p hp => ?_, by simp [zeroC]⟩
      rcases List.mem_singleton.1 hp with rfl
      exact ⟨.inr ⟨_, List.mem_singleton_self _, rfl⟩, hrow⟩

/-! ### The comparison -/

def liveD (gi ci n : Nat) (v6 : Value) (gb cb : Nat) (v14 : Value) (gd cd k : Nat) : List (Nat × Value) :=
  [(3, .slice (some ⟨gi, 0, none⟩) (n + 2) ci), (5, .int .i64 n), (6, v6), (9, .slice (some ⟨gb, 0, none⟩) (n + 2) cb), (14, v14), (16, .slice (some ⟨gd, 0, none⟩) n cd), (20, .int .i64 k)]
def ctxK5 (i : I) (k gi gb gd : Nat) (go : Bool) : Ex.Ctx :=
  Ex.mkCtx [21, 24] [fun _ => Ex.plainC 21 #[.agg i.cells] (.agg i.cells), fun _ => Ex.plainC 24 #[.agg i.cells] (wV i)] [(fK, 190), (fK, 213)] [(fK, 196), (fK, 200), (fK, 206), (fK, 210)]
    (bV go :: (ptrV gd (0 + k * 6) :: iVals i ++ (ptrV gi (0 + k * 6) :: iVals i ++ [bV false, ptrV gb (0 + k * 1), fun _ => wV i, ptrV gi (0 + k * 6)] ++ iVals i ++ [bV false]))) [] [] [] [(fK, 195), (fK, 199), (fK, 201), (fK, 205), (fK, 209)]
theorem ctxK5_holds (i : I) (hf : fitsI i = true) (k gi gb gd : Nat) (go : Bool) : (ctxK5 i k gi gb gd go).holds Try.prog :=
  Ex.mk_holds (Ex.cons_c (fun _ => Ex.meets_plain fun W => ref_call i W) (Ex.cons_c (fun _ => Ex.meets_plain fun W => rword_call i hf W) Ex.nil_c)) Ex.nil_l

def segs5 (gi gb gd : Nat) (F : List I) (tl tw : List Value) : List (Nat × Cont) := [(gd, .seg 0 (insCells F)), (gi, .seg 0 (insCells F ++ tl)), (gb, .seg 0 (wordsOf F ++ tw))]
def ro (l : List (Nat × Cont)) : List Ex.Blk := l.map fun p => ⟨p.1, p.2, false⟩

def ask6 (xs : List Value) (i : I) (k : Nat) : List (Bool × Prop) :=
  [(true, (Cont.seg 0 xs).at (0 + k * 6 + 0) = some (.int .i64 i.op)), (true, (Cont.seg 0 xs).at (0 + k * 6 + 1) = some (.int .i64 i.rd)), (true, (Cont.seg 0 xs).at (0 + k * 6 + 2) = some (.int .i64 i.rn)),
   (true, (Cont.seg 0 xs).at (0 + k * 6 + 3) = some (.int .i64 i.rm)), (true, (Cont.seg 0 xs).at (0 + k * 6 + 4) = some (.int .i64 i.imm)), (true, (Cont.seg 0 xs).at (0 + k * 6 + 5) = some (.int .i64 i.cond))]
theorem insCells_len (l : List I) : (insCells l).length = l.length * 6 := by
  induction l with
  | nil => rfl
  | cons i l ih => rw [insCells, List.flatMap_cons, List.length_append, List.length_cons, Nat.add_mul]; unfold insCells at ih; rw [ih]; simp [I.cells]; omega
theorem ask6_ok {F : List I} {i : I} {k : Nat} (hk : F[k]? = some i) (tl : List Value) : ∀ p ∈ ask6 (insCells F ++ tl) i k, p.1 = true ∧ p.2 := by
  have hlt : k < F.length := (List.getElem?_eq_some_iff.1 hk).1
  have key : ∀ j, j < 6 → (Cont.seg 0 (insCells F ++ tl)).at (0 + k * 6 + j) = i.cells.toList[j]? := fun j hj => by
    rw [seg_at, List.getElem?_append_left (by rw [insCells_len]; omega)]
    exact flat_get (fun i : I => i.cells.toList) 6 (fun _ => rfl) F k j i hj hk
  intro p hp
  simp only [ask6, List.mem_cons, List.not_mem_nil, or_false] at hp
  rcases hp with rfl | rfl | rfl | rfl | rfl | rfl
  · exact ⟨rfl, key 0 (by omega)⟩
  · exact ⟨rfl, key 1 (by omega)⟩
  · exact ⟨rfl, key 2 (by omega)⟩
  · exact ⟨rfl, key 3 (by omega)⟩
  · exact ⟨rfl, key 4 (by omega)⟩
  · exact ⟨rfl, key 5 (by omega)⟩
theorem word_at {F : List I} {i : I} {k : Nat} (hk : F[k]? = some i) (tw : List Value) : (Cont.seg 0 (wordsOf F ++ tw)).at (0 + k * 1) = some (wV i) := by
  have hlt : k < F.length := (List.getElem?_eq_some_iff.1 hk).1
  simp only [Cont.at, Nat.zero_add, Nat.mul_one, Nat.zero_le, if_true, Nat.sub_zero]
  rw [List.getElem?_append_left (by simpa [wordsOf] using hlt), wordsOf, List.getElem?_map, hk]
  rfl

def ixI (g m cap k : Nat) : Prop := ∀ W, (Ex.opV (Instr.indexAt 50 (.slice (some ⟨g, 0, none⟩) m cap) (.int .i64 (k : Nat)))).run Try.prog W = .ok (.value (.pointer (some ⟨g, 0 + k * 6, none⟩))) W
def ixU (g m cap k : Nat) : Prop := ∀ W, (Ex.opV (Instr.indexAt 49 (.slice (some ⟨g, 0, none⟩) m cap) (.int .i64 (k : Nat)))).run Try.prog W = .ok (.value (.pointer (some ⟨g, 0 + k * 1, none⟩))) W
theorem ixI_ok (g m cap k : Nat) (h : k < m) : ixI g m cap k := fun W => by
  obtain ⟨ii, z, hi, hz, hs, -⟩ := elemI.info
  exact Ex.index_run elemI.under hi hs g 0 _ cap k h W
theorem ixU_ok (g m cap k : Nat) (h : k < m) : ixU g m cap k := fun W => by
  obtain ⟨ii, z, hi, hz, hs, -⟩ := elemW.info
  exact Ex.index_run elemW.under hi hs g 0 _ cap k h W

theorem roundK5 (F : List I) (i : I) (k gi ci gb cb gd cd : Nat) (v6 v14 : Value) (tl tw : List Value) (hn : F.length ≤ 100) (hk : F[k]? = some i) (hf : fitsI i = true) {w0 W : World} {a : Act}
    (hK : Ev.Known 227 (liveD gi ci F.length v6 gb cb v14 gd cd k) a) (hR : Ex.Rep w0 (fun _ => True) (Ex.E0 (ro (segs5 gi gb gd F tl tw)) none) W) {Q : Exit → Act → World → Prop}
    (hQ : ∀ a' W', Ev.Known 227 (liveD gi ci F.length v6 gb cb v14 gd cd (k + 1)) a' → Ex.Rep w0 (fun _ => True) (Ex.E0 (ro (segs5 gi gb gd F tl tw)) none) W' → Q .normal a' W') : bodyK5.wp Try.prog Q a W := by
  have hlt : k < F.length := (List.getElem?_eq_some_iff.1 hk).1
  refine Ex.wp_run (ctxK5_holds i hf k gi gb gd true) mixed 200 fK (Ex.traceP Try.prog (ctxK5 i0 5 1 2 3 true) 200 fK bodyK5 ⟨227, liveD 1 9 7 v6 2 9 v14 3 9 5⟩ (ro (segs5 1 2 3 [] [] []))) hK hR [3, 5, 6, 9, 14, 16, 20] [0, 1, 2] (by decide) (x := .normal) (m' := 227)
    (vs := fun ns _ => [.slice (some ⟨gi, 0, none⟩) (F.length + 2) ci, .int .i64 F.length, v6, .slice (some ⟨gb, 0, none⟩) (F.length + 2) cb, v14, .slice (some ⟨gd, 0, none⟩) F.length cd, .int .i64 (IntKind.i64.wrap ((k : Int) + 1))]) (L' := fun ns _ => ro (segs5 gi gb gd F tl tw))
    (q := fun ns ls => [(true, Value.bool (decide ((k : Int) < (F.length : Int))) = .bool true), (true, ixI gd F.length cd k)] ++ (ask6 (insCells F) i k ++ ([(true, ixI gi (F.length + 2) ci k)] ++ (ask6 (insCells F ++ tl) i k ++
      ([(true, ∀ W, (eqSem .neq 25 (.tmp 196) (.tmp 200) (.agg i.cells) (.agg i.cells)).run Try.prog W = .ok (.value (.bool false)) W), (true, ixU gb (F.length + 2) cb k), (true, (Cont.seg 0 (wordsOf F ++ tw)).at (0 + k * 1) = some (wV i)), (true, ixI gi (F.length + 2) ci k)] ++
      (ask6 (insCells F ++ tl) i k ++ [(true, Value.bool (!((wordI i : Int) == (wordI i : Int))) = .bool false)]))))))
    (fun ns ls => by kernel_rfl) (fun ns ls => by kernel_rfl) (fun ns ls => ⟨by rw [decide_eq_true (by omega)], ixI_ok _ _ _ _ hlt, holds_app (l := ask6 (insCells F) i k) (by have := ask6_ok hk []; rwa [List.append_nil] at this) ⟨ixI_ok _ _ _ _ (by omega), holds_app (l := ask6 (insCells F ++ tl) i k) (ask6_ok hk tl)
      ⟨fun W => neq_ins _ _ _ W, ixU_ok _ _ _ _ (by omega), word_at hk tw, ixI_ok _ _ _ _ (by omega), holds_app (l := ask6 (insCells F ++ tl) i k) (ask6_ok hk tl) ⟨by simp, fun a' W' hK' hR' => hQ a' W' ?_ hR'⟩⟩⟩⟩)
  rw [wrap_succ' k _ hlt (by omega)] at hK'
  exact hK'

theorem slot20 {gi ci n gb cb gd cd i : Nat} {v6 v14 : Value} {a' : Act} (h : Ev.Known 227 (liveD gi ci n v6 gb cb v14 gd cd i) a') : (intOf (a'.tmps.getD 20 undef)).toNat = i := by
  have := h.get (20, .int .i64 i) (by simp [liveD])
  simp only at this
  rw [this]; rfl

noncomputable def cmpD (F : List I) (n gi ci gb cb gd cd : Nat) (v6 v14 : Value) (tl tw : List Value) : Ex.LoopC :=
  ⟨.loop bodyK5, 227, liveD gi ci n v6 gb cb v14 gd cd 0, Ex.readM (segs5 gi gb gd F tl tw), .exit 10, fun _ => (liveD gi ci n v6 gb cb v14 gd cd 0).take 6⟩
theorem cmpD_met (F : List I) (n gi ci gb cb gd cd : Nat) (v6 v14 : Value) (tl tw : List Value) (hF : F.length = n) (hn : n ≤ 100) (hall : ∀ i ∈ F, fitsI i = true) : Ex.MeetsL Try.prog (cmpD F n gi ci gb cb gd cd v6 v14 tl tw) := by
  subst hF
  intro a0 W hK0 hpre
  show (Code.loop bodyK5).wp _ _ _ _
  refine wp_loop (fun a wr => ∃ k : Nat, k ≤ F.length ∧ Ev.Known 227 (liveD gi ci F.length v6 gb cb v14 gd cd k) a ∧ Ex.Rep W (fun _ => True) (Ex.E0 (ro (segs5 gi gb gd F tl tw)) none) wr)
    (fun a _ => F.length - (intOf (a.tmps.getD 20 undef)).toNat) ?_ ?_
  · exact ⟨0, by omega, hK0, seg_rep hpre.1⟩
  · rintro a wr ⟨k, hk, hK, hR⟩
    by_cases hlt : k < F.length
    · have he : F[k]? = some F[k] := List.getElem?_eq_getElem hlt
      refine roundK5 F F[k] k gi ci gb cb gd cd v6 v14 tl tw hn he (hall _ (List.getElem_mem hlt)) hK hR fun a' W' hK' hR' => ?_
      refine ⟨⟨k + 1, by omega, hK', hR'⟩, ?_⟩
      rw [slot20 hK', slot20 hK]
      omega
    · obtain rfl : k = F.length := by omega
      refine Ex.wp_run (ctxK5_holds i0 (by kernel_rfl) 0 0 0 0 false) mixed 200 fK (some []) hK hR [3, 5, 6, 9, 14, 16] [] (by decide) (x := .exit 10) (m' := 227)
        (vs := fun ns _ => ((liveD gi ci F.length v6 gb cb v14 gd cd 0).take 6).map Prod.snd) (L' := fun ns _ => []) (q := fun ns ls => [(true, Value.bool (decide ((F.length : Int) < (F.length : Int))) = .bool false)])
        (fun ns ls => by kernel_rfl) (fun ns ls => by kernel_rfl) (fun ns ls => ⟨by rw [decide_eq_false (by omega)], fun a' W' hK' hR' => ?_⟩)
      simp only [Exit.then]
      exact ⟨rfl, [], hK', Ex.post_read hR'.below⟩

end Go.Proofs.Ytjcebkkmpgafkaa
