/-
  CodeLists: List of any words, the first that is none.
-/
import Derived.Test.YtjcebkkmpgafkaaEachL
namespace Go.Proofs.Ytjcebkkmpgafkaa
open Go Go.RowKit
open Ex (Cont num)

def eqSem (op : BinOp) (t : TypeId) (x y : Operand) (a b : Value) : Sem Next := Ex.opV (do eqGuard op t x y a b; binOp op t a b)

theorem neq_ins (i : I) (x y : Operand) (W : World) : (eqSem .neq 25 x y (.agg i.cells) (.agg i.cells)).run Try.prog W = .ok (.value (.bool false)) W := by
  obtain ⟨op, rd, rn, rm, imm, cond⟩ := i
  simp only [I.cells]
  unfold eqSem Ex.opV
  go_simp

theorem refD_good {x : Nat} {j : I} (hx : x < 4294967296) (h : decI x = some j) (W : World) : Calls Try.prog 25 #[.int .u32 x] W fun e W' => e = .returned (.tuple #[.agg (jOf x).cells, .bool true]) ∧ Below W.heap.size W W' := by
  unfold jOf
  rw [h]
  unfold decI at h
  have c1 := rdec_any x hx W
  unfold decV at c1
  cases hd : decR x with
  | none => rw [hd] at h; cases h
  | some k =>
    rw [hd] at h c1
    injection h with h
    subst h
    exact c1
theorem refD_bad {x : Nat} (hx : x < 4294967296) (h : decI x = none) (W : World) : Calls Try.prog 25 #[.int .u32 x] W fun e W' => e = .returned (.tuple #[.agg #[.int .i64 0, .int .i64 0, .int .i64 0, .int .i64 0, .int .i64 0, .int .i64 0], .bool false]) ∧ Below W.heap.size W W' := by
  have c1 := rdec_any x hx W
  have hd : decR x = none := by
    unfold decI at h
    simpa using h
  unfold decV at c1
  rw [hd] at c1
  exact c1

/-! ### The first loop: each word's instruction, as the reference has it -/

def fL : FuncId := 10
noncomputable def bodyL1 : Code := Ex.loopBody Try.f10 0
noncomputable def bodyL2 : Code := Ex.loopBody Try.f10 1

def slL1 (A : Option Addr) (n c k : Nat) (v3 v4 v5 : Value) : List (Nat × Value) := [(0, .slice A n c), (3, v3), (4, v4), (5, v5), (6, .int .i64 k)]
def ctxL1 (x : Nat) (e : Value) (k b o : Nat) (go : Bool) : Ex.Ctx :=
  Ex.mkCtx [25] [fun _ => Ex.plainC 25 #[.int .u32 (x : Nat)] e] [(fL, 37), (fL, 56)] [(fL, 44)]
    [fun _ => .bool go, fun _ => .pointer (some ⟨b, o + k * 1, none⟩), fun _ => xV x, fun _ => .bool true] [] [] [] [(fL, 43)]
theorem ctxL1_holds (x : Nat) (e : Value) (he : ∀ W, Calls Try.prog 25 #[.int .u32 x] W fun en W' => en = .returned e ∧ Below W.heap.size W W') (k b o : Nat) (go : Bool) : (ctxL1 x e k b o go).holds Try.prog :=
  Ex.mk_holds (Ex.cons_c (fun _ => Ex.meets_plain he) Ex.nil_c) Ex.nil_l

theorem wrap_succ' (k n : Nat) (h : k < n) (hn : n ≤ 16384) : IntKind.i64.wrap ((k : Int) + 1) = ((k + 1 : Nat) : Int) := by
  rw [IntWalk.i64_in _ (by omega)]; omega

theorem roundL1_good (l : List Nat) (x : Nat) {j : I} (b o c k : Nat) (v3 v4 v5 : Value) (hn : l.length ≤ 16384) (hk : l[k]? = some x) (hx : x < 4294967296) (hd : decI x = some j) {w0 W : World} {a : Act}
    (hK : Ev.Known 96 (slL1 (some ⟨b, o, none⟩) l.length c k v3 v4 v5) a) (hR : Ex.Rep w0 (fun _ => True) (Ex.E0 [segN b o l] none) W) {Q : Exit → Act → World → Prop}
    (hQ : ∀ a' W', Ev.Known 96 (slL1 (some ⟨b, o, none⟩) l.length c (k + 1) v3 v4 v5) a' → Ex.Rep w0 (fun _ => True) (Ex.E0 [segN b o l] none) W' → Q .normal a' W') : bodyL1.wp Try.prog Q a W := by
  have hlt : k < l.length := (List.getElem?_eq_some_iff.1 hk).1
  refine Ex.wp_run (ctxL1_holds x _ (refD_good hx hd) k b o true) mixed 200 fL
    (Ex.traceP Try.prog (ctxL1 0 (.tuple #[zI, .bool true]) 5 1 0 true) 200 fL bodyL1 ⟨96, slL1 (some ⟨1, 0, none⟩) 7 7 5 v3 v4 v5⟩ [segN 1 0 []]) hK hR [0, 3, 4, 5, 6] [1] (by decide) (x := .normal) (m' := 96)
    (vs := fun ns _ => [.slice (some ⟨b, o, none⟩) l.length c, v3, v4, v5, .int .i64 (IntKind.i64.wrap ((k : Int) + 1))]) (L' := fun ns _ => [segN b o l]) (q := fun ns ls => ask40 l x b o l.length c k ++ [])
    (fun ns ls => by kernel_rfl) (fun ns ls => by kernel_rfl) (fun ns ls => holds_app (ask40_ok hk b o c) (fun a' W' hK' hR' => hQ a' W' ?_ hR'))
  rw [wrap_succ' k _ hlt hn] at hK'
  exact hK'

theorem roundL1_bad (l : List Nat) (x : Nat) (b o c k : Nat) (hk : l[k]? = some x) (hx : x < 4294967296) (hd : decI x = none) {w0 W : World} {a : Act}
    (hK : Ev.Known 96 (slL1 (some ⟨b, o, none⟩) l.length c k (.slice none 0 0) (.int .i64 k) (.int .i64 7)) a) (hR : Ex.Rep w0 (fun _ => True) (Ex.E0 [segN b o l] none) W) {Q : Exit → Act → World → Prop}
    (hQ : ∀ a' W', Ev.Known 96 [(2, .bool true)] a' → Ex.Rep w0 (fun _ => True) (Ex.E0 [] none) W' → Q .ret a' W') : bodyL1.wp Try.prog Q a W := by
  refine Ex.wp_run (ctxL1_holds x _ (refD_bad hx hd) k b o true) mixed 200 fL
    (Ex.traceP Try.prog (ctxL1 0 (.tuple #[zI, .bool false]) 5 1 0 true) 200 fL bodyL1 ⟨96, slL1 (some ⟨1, 0, none⟩) 7 7 5 (.slice none 0 0) (.int .i64 5) (.int .i64 7)⟩ [segN 1 0 []]) hK hR [2] [] (by decide) (x := .ret) (m' := 96)
    (vs := fun ns _ => [.bool true]) (L' := fun ns _ => []) (q := fun ns ls => ask40 l x b o l.length c k ++ [(true, Value.bool ((k : Int) == (k : Int)) = .bool true)])
    (fun ns ls => by kernel_rfl) (fun ns ls => by kernel_rfl) (fun ns ls => holds_app (ask40_ok hk b o c) ⟨by rw [beq_self_eq_true], fun a' W' hK' hR' => hQ a' W' hK' hR'⟩)

theorem roundL1_end (A : Option Addr) (n c : Nat) (v3 v4 v5 : Value) {L : List Ex.Blk} {w0 W : World} {a : Act}
    (hK : Ev.Known 96 (slL1 A n c n v3 v4 v5) a) (hR : Ex.Rep w0 (fun _ => True) (Ex.E0 L none) W) {Q : Exit → Act → World → Prop}
    (hQ : ∀ a' W', Ev.Known 96 ((slL1 A n c 0 v3 v4 v5).take 4) a' → Ex.Rep w0 (fun _ => True) (Ex.E0 [] none) W' → Q (.exit 0) a' W') : bodyL1.wp Try.prog Q a W := by
  refine Ex.wp_run (ctxL1_holds 0 _ (refD_bad (by omega) dec0) 0 0 0 false) mixed 200 fL (some []) hK hR [0, 3, 4, 5] [] (by decide) (x := .exit 0) (m' := 96)
    (vs := fun ns _ => [.slice A n c, v3, v4, v5]) (L' := fun ns _ => []) (q := fun ns ls => [(true, Value.bool (decide ((n : Int) < (n : Int))) = .bool false)])
    (fun ns ls => by kernel_rfl) (fun ns ls => by kernel_rfl) (fun ns ls => ⟨by rw [decide_eq_false (by omega)], fun a' W' hK' hR' => hQ a' W' hK' hR'⟩)

theorem slot6 {A : Option Addr} {n c i : Nat} {v3 v4 v5 : Value} {a' : Act} (h : Ev.Known 96 (slL1 A n c i v3 v4 v5) a') : (intOf (a'.tmps.getD 6 undef)).toNat = i := by
  have := h.get (6, .int .i64 i) (by simp [slL1])
  simp only at this
  rw [this]; rfl

noncomputable def loopL1 (b o c : Nat) (l : List Nat) (v3 v4 v5 : Value) : Ex.LoopC :=
  ⟨.loop bodyL1, 96, slL1 (some ⟨b, o, none⟩) l.length c 0 v3 v4 v5, Ex.readM [(b, .seg o (numCells l))], .exit 0, fun _ => (slL1 (some ⟨b, o, none⟩) l.length c 0 v3 v4 v5).take 4⟩
theorem loopL1_met (b o c : Nat) (l : List Nat) (v3 v4 v5 : Value) (hn : l.length ≤ 16384) (hfit : ∀ x ∈ l, x < 4294967296) (hall : ∀ x ∈ l, ∃ j, decI x = some j) : Ex.MeetsL Try.prog (loopL1 b o c l v3 v4 v5) := by
  intro a0 W hK0 hpre
  show (Code.loop bodyL1).wp _ _ _ _
  refine wp_loop (fun a wr => ∃ k : Nat, k ≤ l.length ∧ Ev.Known 96 (slL1 (some ⟨b, o, none⟩) l.length c k v3 v4 v5) a ∧ Ex.Rep W (fun _ => True) (Ex.E0 [segN b o l] none) wr)
    (fun a _ => l.length - (intOf (a.tmps.getD 6 undef)).toNat) ?_ ?_
  · exact ⟨0, by omega, hK0, seg_rep hpre.1⟩
  · rintro a wr ⟨k, hk, hK, hR⟩
    by_cases hlt : k < l.length
    · have he : l[k]? = some l[k] := List.getElem?_eq_getElem hlt
      obtain ⟨j, hj⟩ := hall _ (List.getElem_mem hlt)
      refine roundL1_good l l[k] b o c k v3 v4 v5 hn he (hfit _ (List.getElem_mem hlt)) hj hK hR fun a' W' hK' hR' => ?_
      refine ⟨⟨k + 1, by omega, hK', hR'⟩, ?_⟩
      rw [slot6 hK', slot6 hK]
      omega
    · have : k = l.length := by omega
      subst this
      refine roundL1_end _ _ c v3 v4 v5 hK hR fun a' W' hK' hR' => ?_
      simp only [Exit.then]
      exact ⟨rfl, [], hK', Ex.post_read hR'.below⟩

noncomputable def loopL1b (b o c : Nat) (l : List Nat) (at_ : Nat) : Ex.LoopC :=
  ⟨.loop bodyL1, 96, slL1 (some ⟨b, o, none⟩) l.length c 0 (.slice none 0 0) (.int .i64 at_) (.int .i64 7), Ex.readM [(b, .seg o (numCells l))], .ret, fun _ => [(2, .bool true)]⟩
theorem loopL1b_met (b o c : Nat) (l : List Nat) (at_ : Nat) (hn : l.length ≤ 16384) (hfit : ∀ x ∈ l, x < 4294967296) (x : Nat) (hat : l[at_]? = some x) (hbad : decI x = none) (hall : ∀ k y, k < at_ → l[k]? = some y → ∃ j, decI y = some j) : Ex.MeetsL Try.prog (loopL1b b o c l at_) := by
  intro a0 W hK0 hpre
  show (Code.loop bodyL1).wp _ _ _ _
  have hlat : at_ < l.length := (List.getElem?_eq_some_iff.1 hat).1
  refine wp_loop (fun a wr => ∃ k : Nat, k ≤ at_ ∧ Ev.Known 96 (slL1 (some ⟨b, o, none⟩) l.length c k (.slice none 0 0) (.int .i64 at_) (.int .i64 7)) a ∧ Ex.Rep W (fun _ => True) (Ex.E0 [segN b o l] none) wr)
    (fun a _ => l.length - (intOf (a.tmps.getD 6 undef)).toNat) ?_ ?_
  · exact ⟨0, by omega, hK0, seg_rep hpre.1⟩
  · rintro a wr ⟨k, hk, hK, hR⟩
    by_cases hlt : k < at_
    · have he : l[k]? = some (l[k]'(by omega)) := List.getElem?_eq_getElem (by omega)
      obtain ⟨j, hj⟩ := hall k _ hlt he
      refine roundL1_good l _ b o c k _ _ _ hn he (hfit _ (List.mem_of_getElem? he)) hj hK hR fun a' W' hK' hR' => ?_
      refine ⟨⟨k + 1, by omega, hK', hR'⟩, ?_⟩
      rw [slot6 hK', slot6 hK]
      omega
    · have : k = at_ := by omega
      subst this
      refine roundL1_bad l x b o c k hat (hfit _ (List.mem_of_getElem? hat)) hbad hK hR fun a' W' hK' hR' => ?_
      simp only [Exit.then]
      exact ⟨rfl, [], hK', Ex.post_read hR'.below⟩

/-! ### The second loop: what List told -/

def slL2 (b o n c g cap k : Nat) : List (Nat × Value) := [(0, .slice (some ⟨b, o, none⟩) n c), (3, .slice (some ⟨g, 0, none⟩) n cap), (9, .int .i64 k)]
def ctxL2 (x : Nat) (k b o g : Nat) (go : Bool) : Ex.Ctx :=
  Ex.mkCtx [25, 26] [fun _ => Ex.plainC 25 #[.int .u32 (x : Nat)] (.tuple #[.agg (jOf x).cells, .bool true]), fun _ => Ex.plainC 26 #[.agg (jOf x).cells] (.agg (jOf x).cells)]
    [(fL, 78)] [(fL, 85), (fL, 92)]
    [fun _ => .bool go, fun _ => .pointer (some ⟨b, o + k * 1, none⟩), fun _ => xV x, fun _ => .pointer (some ⟨g, 0 + k * 6, none⟩), fun _ => .int .i64 (jOf x).op, fun _ => .int .i64 (jOf x).rd, fun _ => .int .i64 (jOf x).rn, fun _ => .int .i64 (jOf x).rm, fun _ => .int .i64 (jOf x).imm, fun _ => .int .i64 (jOf x).cond, fun _ => .bool false] [] [] [] [(fL, 84), (fL, 91), (fL, 95)]
theorem ctxL2_holds (x : Nat) {j : I} (hx : x < 4294967296) (hd : decI x = some j) (k b o g : Nat) (go : Bool) : (ctxL2 x k b o g go).holds Try.prog :=
  Ex.mk_holds (Ex.cons_c (fun _ => Ex.meets_plain (refD_good hx hd)) (Ex.cons_c (fun _ => Ex.meets_plain fun W => api_call _ W) Ex.nil_c)) Ex.nil_l

theorem jV_len (x : Nat) : (jV x).length = 6 := rfl
theorem insOf_at {l : List Nat} {k x : Nat} (hk : l[k]? = some x) (j : Nat) (hj : j < 6) : (Cont.seg 0 (insOf l)).at (0 + k * 6 + j) = (jV x)[j]? := by
  rw [seg_at]
  exact flat_get jV 6 jV_len l k j x hj hk

def askL2 (l : List Nat) (x : Nat) (g cap k : Nat) : List (Bool × Prop) :=
  [(true, ∀ W, (Ex.opV (Instr.indexAt 50 (.slice (some ⟨g, 0, none⟩) l.length cap) (.int .i64 (k : Nat)))).run Try.prog W = .ok (.value (.pointer (some ⟨g, 0 + k * 6, none⟩))) W),
   (true, (Cont.seg 0 (insOf l)).at (0 + k * 6 + 0) = some (.int .i64 (jOf x).op)), (true, (Cont.seg 0 (insOf l)).at (0 + k * 6 + 1) = some (.int .i64 (jOf x).rd)), (true, (Cont.seg 0 (insOf l)).at (0 + k * 6 + 2) = some (.int .i64 (jOf x).rn)),
   (true, (Cont.seg 0 (insOf l)).at (0 + k * 6 + 3) = some (.int .i64 (jOf x).rm)), (true, (Cont.seg 0 (insOf l)).at (0 + k * 6 + 4) = some (.int .i64 (jOf x).imm)), (true, (Cont.seg 0 (insOf l)).at (0 + k * 6 + 5) = some (.int .i64 (jOf x).cond)),
   (true, ∀ W, (eqSem .neq 25 (.tmp 92) (.tmp 94) (.agg (jOf x).cells) (.agg (jOf x).cells)).run Try.prog W = .ok (.value (.bool false)) W)]
theorem askL2_ok {l : List Nat} {x : Nat} {k : Nat} (hk : l[k]? = some x) (g cap : Nat) : ∀ p ∈ askL2 l x g cap k, p.1 = true ∧ p.2 := by
  have hlt : k < l.length := (List.getElem?_eq_some_iff.1 hk).1
  obtain ⟨ii, z, hi, hz, hs, -⟩ := elemI.info
  intro p hp
  simp only [askL2, List.mem_cons, List.not_mem_nil, or_false] at hp
  rcases hp with rfl | rfl | rfl | rfl | rfl | rfl | rfl | rfl
  · exact ⟨rfl, fun W => Ex.index_run elemI.under hi hs g 0 _ cap k hlt W⟩
  · exact ⟨rfl, insOf_at hk 0 (by omega)⟩
  · exact ⟨rfl, insOf_at hk 1 (by omega)⟩
  · exact ⟨rfl, insOf_at hk 2 (by omega)⟩
  · exact ⟨rfl, insOf_at hk 3 (by omega)⟩
  · exact ⟨rfl, insOf_at hk 4 (by omega)⟩
  · exact ⟨rfl, insOf_at hk 5 (by omega)⟩
  · exact ⟨rfl, fun W => neq_ins _ _ _ W⟩

def segI (g : Nat) (l : List Nat) : Ex.Blk := ⟨g, .seg 0 (insOf l), false⟩

theorem roundL2 (l : List Nat) (x : Nat) {j : I} (b o c g cap k : Nat) (hn : l.length ≤ 16384) (hk : l[k]? = some x) (hx : x < 4294967296) (hd : decI x = some j) {w0 W : World} {a : Act}
    (hK : Ev.Known 96 (slL2 b o l.length c g cap k) a) (hR : Ex.Rep w0 (fun _ => True) (Ex.E0 [segN b o l, segI g l] none) W) {Q : Exit → Act → World → Prop}
    (hQ : ∀ a' W', Ev.Known 96 (slL2 b o l.length c g cap (k + 1)) a' → Ex.Rep w0 (fun _ => True) (Ex.E0 [segN b o l, segI g l] none) W' → Q .normal a' W') : bodyL2.wp Try.prog Q a W := by
  have hlt : k < l.length := (List.getElem?_eq_some_iff.1 hk).1
  refine Ex.wp_run (ctxL2_holds x hx hd k b o g true) mixed 200 fL
    (Ex.traceP Try.prog (ctxL2 0 5 1 0 2 true) 200 fL bodyL2 ⟨96, slL2 1 0 7 7 2 7 5⟩ [segN 1 0 [], segI 2 []]) hK hR [0, 3, 9] [1, 2] (by decide) (x := .normal) (m' := 96)
    (vs := fun ns _ => [.slice (some ⟨b, o, none⟩) l.length c, .slice (some ⟨g, 0, none⟩) l.length cap, .int .i64 (IntKind.i64.wrap ((k : Int) + 1))]) (L' := fun ns _ => [segN b o l, segI g l]) (q := fun ns ls => ask40 l x b o l.length c k ++ (askL2 l x g cap k ++ []))
    (fun ns ls => by kernel_rfl) (fun ns ls => by kernel_rfl) (fun ns ls => holds_app (ask40_ok hk b o c) (holds_app (askL2_ok hk g cap) (fun a' W' hK' hR' => hQ a' W' ?_ hR')))
  rw [wrap_succ' k _ hlt hn] at hK'
  exact hK'

theorem slot9 {b o n c g cap i : Nat} {a' : Act} (h : Ev.Known 96 (slL2 b o n c g cap i) a') : (intOf (a'.tmps.getD 9 undef)).toNat = i := by
  have := h.get (9, .int .i64 i) (by simp [slL2])
  simp only at this
  rw [this]; rfl

noncomputable def loopL2 (b o c g cap : Nat) (l : List Nat) : Ex.LoopC :=
  ⟨.loop bodyL2, 96, slL2 b o l.length c g cap 0, Ex.readM [(b, .seg o (numCells l)), (g, .seg 0 (insOf l))], .exit 2, fun _ => []⟩
theorem loopL2_met (b o c g cap : Nat) (l : List Nat) (hn : l.length ≤ 16384) (hfit : ∀ x ∈ l, x < 4294967296) (hall : ∀ x ∈ l, ∃ j, decI x = some j) : Ex.MeetsL Try.prog (loopL2 b o c g cap l) := by
  intro a0 W hK0 hpre
  show (Code.loop bodyL2).wp _ _ _ _
  refine wp_loop (fun a wr => ∃ k : Nat, k ≤ l.length ∧ Ev.Known 96 (slL2 b o l.length c g cap k) a ∧ Ex.Rep W (fun _ => True) (Ex.E0 [segN b o l, segI g l] none) wr)
    (fun a _ => l.length - (intOf (a.tmps.getD 9 undef)).toNat) ?_ ?_
  · exact ⟨0, by omega, hK0, seg_rep hpre.1⟩
  · rintro a wr ⟨k, hk, hK, hR⟩
    by_cases hlt : k < l.length
    · have he : l[k]? = some l[k] := List.getElem?_eq_getElem hlt
      obtain ⟨j, hj⟩ := hall _ (List.getElem_mem hlt)
      refine roundL2 l l[k] b o c g cap k hn he (hfit _ (List.getElem_mem hlt)) hj hK hR fun a' W' hK' hR' => ?_
      refine ⟨⟨k + 1, by omega, hK', hR'⟩, ?_⟩
      rw [slot9 hK', slot9 hK]
      omega
    · have : k = l.length := by omega
      subst this
      refine Ex.wp_run (ctxL2_holds 3573751839 (j := jOf 3573751839) (by omega) (by kernel_rfl) 0 0 0 0 false) mixed 200 fL (some []) hK hR [] [] (by decide) (x := .exit 2) (m' := 96)
        (vs := fun ns _ => []) (L' := fun ns _ => []) (q := fun ns ls => [(true, Value.bool (decide ((l.length : Int) < (l.length : Int))) = .bool false)])
        (fun ns ls => by kernel_rfl) (fun ns ls => by kernel_rfl) (fun ns ls => ⟨by rw [decide_eq_false (by omega)], fun a' W' hK' hR' => ?_⟩)
      simp only [Exit.then]
      exact ⟨rfl, [], hK', Ex.post_read hR'.below⟩

end Go.Proofs.Ytjcebkkmpgafkaa
