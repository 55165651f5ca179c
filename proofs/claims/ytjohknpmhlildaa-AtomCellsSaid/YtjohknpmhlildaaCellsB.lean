/-
  AtomCells: a round, one for each kind of call.
-/
import Derived.Test.YtjohknpmhlildaaCellsA
namespace Go.Proofs.Ytjohknpmhlildaa
open Go Go.RowKit
open Ex (Cont num)

/-- One of the calls that are asked for. -/
structure O where
  k : Int
  n : Int
  v : Int
def O.cells (o : O) : List Value := [.int .i64 o.k, .int .i64 o.n, .int .u64 o.v]
def opCells (l : List O) : List Value := l.flatMap O.cells

abbrev fC : FuncId := 3
noncomputable def bodyC : Code := Ex.loopBody Try.f3 0
def cellO (v : Int) : Cont := Ex.oneObj 60 (.int .u64 v)
def segO (b o : Nat) (l : List O) : Ex.Blk := ⟨b, .seg o (opCells l), false⟩
def cellB (g : Nat) (v : Int) : Ex.Blk := ⟨g, cellO v, true⟩
def slC (b o n c g : Nat) (v : Int) (i : Nat) : List (Nat × Value) := [(0, .int .u64 v), (1, .slice (some ⟨b, o, none⟩) n c), (5, .pointer (ptr g)), (6, .int .i64 i)]

def slW (b o n c g : Nat) (v : Int) (i : Nat) : List (Nat × Value) := [(0, .int .u64 v), (1, .slice (some ⟨b, o, none⟩) n c), (5, .pointer (ptr g)), (6, .int .i64 (IntKind.i64.wrap ((i : Int) + 1)))]

theorem holds_app {X : Prop} : ∀ {l r : List (Bool × Prop)}, (∀ p ∈ l, p.1 = true ∧ p.2) → Ex.holds X r → Ex.holds X (l ++ r)
  | [], _, _, h => h
  | (b, p) :: l, r, hl, h => by
    obtain ⟨h1, h2⟩ := hl (b, p) List.mem_cons_self
    simp only at h1 h2
    subst h1
    exact ⟨h2, holds_app (fun p hp => hl p (List.mem_cons_of_mem _ hp)) h⟩

/-- What is given: the load, the tests. -/
def given (b o i : Nat) (p : O) (l : List Bool) : List (Ex.Hist → Value) :=
  (fun _ => .bool true) :: (fun _ => .pointer (some ⟨b, o + i * 3, none⟩)) :: (fun _ => .int .i64 p.k) :: (fun _ => .int .i64 p.n) :: (fun _ => .int .u64 p.v) :: l.map fun x => fun _ => .bool x

noncomputable def ctxC (b o i : Nat) (p : O) (l : List Bool) (ol : List (Ex.Hist → Ex.OpC)) : Ex.Ctx :=
  Ex.mkCtx [] [] [(fC, 19), (fC, 31), (fC, 39), (fC, 47), (fC, 57), (fC, 73), (fC, 69), (fC, 81), (fC, 86), (fC, 91), (30, 7)] [(fC, 25)] (given b o i p l) [] [] [] [(fC, 24)] [(49, 12)] ol [(29, 2, [3, 4])]
theorem ctxC_holds (b o i : Nat) (p : O) (l : List Bool) (ol : List (Ex.Hist → Ex.OpC)) : (ctxC b o i p l ol).holds Try.prog := Ex.mk_holds Ex.nil_c Ex.nil_l

noncomputable def ctxM (b o i : Nat) (p : O) (m : Int) (l : List Bool) (ol : List (Ex.Hist → Ex.OpC)) : Ex.Ctx :=
  Ex.mkCtx [] [] [(fC, 19), (fC, 31), (fC, 39), (fC, 47), (fC, 57), (fC, 73), (fC, 69), (fC, 81), (fC, 86), (fC, 91)] [(fC, 25)] (given b o i p [false, false, false, false, true] ++ [fun _ => .int .u64 m] ++ l.map fun x => fun _ => .bool x) [] [] [] [(fC, 24), (31, 6)] [(49, 12)] ol [(29, 2, [3, 4])]
theorem ctxM_holds (b o i : Nat) (p : O) (m : Int) (l : List Bool) (ol : List (Ex.Hist → Ex.OpC)) : (ctxM b o i p m l ol).holds Try.prog := Ex.mk_holds Ex.nil_c Ex.nil_l

theorem max_met {x y m : Int} (h : (if y > x then y else x) = m) (W : World) : (Ex.opV (Builtin.max_ #[22, 22] 22 #[.int .u64 x, .int .u64 y])).run Try.prog W = .ok (.value (.int .u64 m)) W := by
  rw [← h]
  exact Ex.opV_run (run_max_int2 ..)

/-- What a round asks ahead of its call. -/
def askC (l : List O) (p : O) (b o n c i : Nat) : List (Bool × Prop) :=
  [(true, Value.bool (decide ((i : Int) < (n : Int))) = .bool true),
   (true, ∀ W, (Ex.opV (Instr.indexAt 23 (.slice (some ⟨b, o, none⟩) n c) (.int .i64 (i : Nat)))).run Try.prog W = .ok (.value (.pointer (some ⟨b, o + i * 3, none⟩))) W),
   (true, (Cont.seg o (opCells l)).at (o + i * 3) = some (.int .i64 p.k)),
   (true, (Cont.seg o (opCells l)).at (o + i * 3 + 1) = some (.int .i64 p.n)),
   (true, (Cont.seg o (opCells l)).at (o + i * 3 + 2) = some (.int .u64 p.v))]


theorem round2 {l : List O} {p : O} {b o c g i : Nat} {v : Int} {w0 W : World} {keep : Nat → Prop} {a : Act} (hk : p.k = 2)
    (hK : Ev.Known 97 (slC b o l.length c g v i) a) (hR : Ex.Rep w0 keep (Ex.E0 [segO b o l, cellB g v] none) W) {Q : Exit → Act → World → Prop}
    (hA : ∀ x ∈ askC l p b o l.length c i, x.1 = true ∧ x.2)
    (hQ : ∀ a' W', Ev.Known 97 (slW b o l.length c g (p.v) i) a' → Ex.Rep w0 keep (Ex.E0 [segO b o l, cellB g (p.v)] none) W' → Q .normal a' W') : bodyC.wp Try.prog Q a W := by
  refine Ex.wp_run (ctxC_holds b o i p [true, false, false] []) mixed 200 fC
    (Ex.traceP Try.prog (ctxC 1 0 5 ⟨2, 3, 4⟩ [true, false, false] []) 200 fC bodyC ⟨97, slC 1 0 7 7 2 9 5⟩ [segO 1 0 [], cellB 2 9]) hK hR [0, 1, 5, 6] [1, 2] (by decide) (x := .normal) (m' := 97)
    (vs := fun ns _ => [.int .u64 (p.v), .slice (some ⟨b, o, none⟩) l.length c, .pointer (ptr g), .int .i64 (IntKind.i64.wrap ((i : Int) + 1))]) (L' := fun ns _ => [segO b o l, cellB g (p.v)])
    (q := fun ns ls => askC l p b o l.length c i ++ [(true, Value.bool (p.k == (2 : Int)) = .bool true), (true, Value.bool (v != v) = .bool false), (true, Value.bool (p.v != p.v) = .bool false)])
    (fun ns ls => by kernel_rfl) (fun ns ls => by kernel_rfl) (fun ns ls => holds_app hA ⟨by rw [hk]; rfl, by rw [bne_self_eq_false], by rw [bne_self_eq_false], fun a' W' hK' hR' => hQ a' W' hK' hR'⟩)

theorem round3 {l : List O} {p : O} {b o c g i : Nat} {v : Int} {w0 W : World} {keep : Nat → Prop} {a : Act} (hk : p.k = 3)
    (hK : Ev.Known 97 (slC b o l.length c g v i) a) (hR : Ex.Rep w0 keep (Ex.E0 [segO b o l, cellB g v] none) W) {Q : Exit → Act → World → Prop}
    (hA : ∀ x ∈ askC l p b o l.length c i, x.1 = true ∧ x.2)
    (hQ : ∀ a' W', Ev.Known 97 (slW b o l.length c g (p.v) i) a' → Ex.Rep w0 keep (Ex.E0 [segO b o l, cellB g (p.v)] none) W' → Q .normal a' W') : bodyC.wp Try.prog Q a W := by
  refine Ex.wp_run (ctxC_holds b o i p [false, true, false, false] []) mixed 200 fC
    (Ex.traceP Try.prog (ctxC 1 0 5 ⟨2, 3, 4⟩ [false, true, false, false] []) 200 fC bodyC ⟨97, slC 1 0 7 7 2 9 5⟩ [segO 1 0 [], cellB 2 9]) hK hR [0, 1, 5, 6] [1, 2] (by decide) (x := .normal) (m' := 97)
    (vs := fun ns _ => [.int .u64 (p.v), .slice (some ⟨b, o, none⟩) l.length c, .pointer (ptr g), .int .i64 (IntKind.i64.wrap ((i : Int) + 1))]) (L' := fun ns _ => [segO b o l, cellB g (p.v)])
    (q := fun ns ls => askC l p b o l.length c i ++ [(true, Value.bool (p.k == (2 : Int)) = .bool false), (true, Value.bool (p.k == (3 : Int)) = .bool true), (true, Value.bool (v != v) = .bool false), (true, Value.bool (p.v != p.v) = .bool false)])
    (fun ns ls => by kernel_rfl) (fun ns ls => by kernel_rfl) (fun ns ls => holds_app hA ⟨by rw [hk]; rfl, by rw [hk]; rfl, by rw [bne_self_eq_false], by rw [bne_self_eq_false], fun a' W' hK' hR' => hQ a' W' hK' hR'⟩)

theorem round4 {l : List O} {p : O} {b o c g i : Nat} {v : Int} {w0 W : World} {keep : Nat → Prop} {a : Act} (hk : p.k = 4) (hg : IntKind.u64.wrap (IntKind.u64.wrap (v + p.v) - p.v) = v)
    (hK : Ev.Known 97 (slC b o l.length c g v i) a) (hR : Ex.Rep w0 keep (Ex.E0 [segO b o l, cellB g v] none) W) {Q : Exit → Act → World → Prop}
    (hA : ∀ x ∈ askC l p b o l.length c i, x.1 = true ∧ x.2)
    (hQ : ∀ a' W', Ev.Known 97 (slW b o l.length c g (IntKind.u64.wrap (v + p.v)) i) a' → Ex.Rep w0 keep (Ex.E0 [segO b o l, cellB g (IntKind.u64.wrap (v + p.v))] none) W' → Q .normal a' W') : bodyC.wp Try.prog Q a W := by
  refine Ex.wp_run (ctxC_holds b o i p [false, false, true, false, false] []) mixed 200 fC
    (Ex.traceP Try.prog (ctxC 1 0 5 ⟨2, 3, 4⟩ [false, false, true, false, false] []) 200 fC bodyC ⟨97, slC 1 0 7 7 2 9 5⟩ [segO 1 0 [], cellB 2 9]) hK hR [0, 1, 5, 6] [1, 2] (by decide) (x := .normal) (m' := 97)
    (vs := fun ns _ => [.int .u64 (IntKind.u64.wrap (v + p.v)), .slice (some ⟨b, o, none⟩) l.length c, .pointer (ptr g), .int .i64 (IntKind.i64.wrap ((i : Int) + 1))]) (L' := fun ns _ => [segO b o l, cellB g (IntKind.u64.wrap (v + p.v))])
    (q := fun ns ls => askC l p b o l.length c i ++ [(true, Value.bool (p.k == (2 : Int)) = .bool false), (true, Value.bool (p.k == (3 : Int)) = .bool false), (true, Value.bool (p.k == (4 : Int)) = .bool true), (true, Value.bool (IntKind.u64.wrap (IntKind.u64.wrap (v + p.v) - p.v) != v) = .bool false), (true, Value.bool (IntKind.u64.wrap (v + p.v) != IntKind.u64.wrap (v + p.v)) = .bool false)])
    (fun ns ls => by kernel_rfl) (fun ns ls => by kernel_rfl) (fun ns ls => holds_app hA ⟨by rw [hk]; rfl, by rw [hk]; rfl, by rw [hk]; rfl, by rw [hg, bne_self_eq_false], by rw [bne_self_eq_false], fun a' W' hK' hR' => hQ a' W' hK' hR'⟩)

theorem round5a {l : List O} {p : O} {b o c g i : Nat} {v : Int} {w0 W : World} {keep : Nat → Prop} {a : Act} (hk : p.k = 5) (he : v = IntKind.u64.wrap p.n)
    (hK : Ev.Known 97 (slC b o l.length c g v i) a) (hR : Ex.Rep w0 keep (Ex.E0 [segO b o l, cellB g v] none) W) {Q : Exit → Act → World → Prop}
    (hA : ∀ x ∈ askC l p b o l.length c i, x.1 = true ∧ x.2)
    (hQ : ∀ a' W', Ev.Known 97 (slW b o l.length c g (p.v) i) a' → Ex.Rep w0 keep (Ex.E0 [segO b o l, cellB g (p.v)] none) W' → Q .normal a' W') : bodyC.wp Try.prog Q a W := by
  refine Ex.wp_run (ctxC_holds b o i p [false, false, false, true, true, true, false, false] [fun _ => Ex.casC g 60 (.int .u64 v) (.int .u64 (p.v))]) mixed 200 fC
    (Ex.traceP Try.prog (ctxC 1 0 5 ⟨2, 3, 4⟩ [false, false, false, true, true, true, false, false] [fun _ => Ex.casC 2 60 (.int .u64 9) (.int .u64 4)]) 200 fC bodyC ⟨97, slC 1 0 7 7 2 9 5⟩ [segO 1 0 [], cellB 2 9]) hK hR [0, 1, 5, 6] [4, 0] (by decide) (x := .normal) (m' := 97)
    (vs := fun ns _ => [.int .u64 (p.v), .slice (some ⟨b, o, none⟩) l.length c, .pointer (ptr g), .int .i64 (IntKind.i64.wrap ((i : Int) + 1))]) (L' := fun ns _ => [segO b o l, cellB g (p.v)])
    (q := fun ns ls => askC l p b o l.length c i ++ [(true, Value.bool (p.k == (2 : Int)) = .bool false), (true, Value.bool (p.k == (3 : Int)) = .bool false), (true, Value.bool (p.k == (4 : Int)) = .bool false), (true, Value.bool (p.k == (5 : Int)) = .bool true), (true, Value.bool (v == IntKind.u64.wrap p.n) = .bool true), (true, Ex.OpMeets Try.prog (callFunc 58 #[.pointer (ptr g), .int .u64 v, .int .u64 (p.v)]) (Ex.casC g 60 (.int .u64 v) (.int .u64 (p.v)))), (true, Value.bool (v == IntKind.u64.wrap p.n) = .bool true), (true, Value.bool (v != v) = .bool false), (true, Value.bool (p.v != p.v) = .bool false)])
    (fun ns ls => by kernel_rfl) (fun ns ls => by kernel_rfl) (fun ns ls => holds_app hA ⟨by rw [hk]; rfl, by rw [hk]; rfl, by rw [hk]; rfl, by rw [hk]; rfl, by rw [← he, beq_self_eq_true], Ex.cas_met cas_u64 _ _ _ _, by rw [← he, beq_self_eq_true], by rw [bne_self_eq_false], by rw [bne_self_eq_false], fun a' W' hK' hR' => hQ a' W' hK' hR'⟩)

theorem round5b {l : List O} {p : O} {b o c g i : Nat} {v : Int} {w0 W : World} {keep : Nat → Prop} {a : Act} (hk : p.k = 5) (he : v ≠ IntKind.u64.wrap p.n)
    (hK : Ev.Known 97 (slC b o l.length c g v i) a) (hR : Ex.Rep w0 keep (Ex.E0 [segO b o l, cellB g v] none) W) {Q : Exit → Act → World → Prop}
    (hA : ∀ x ∈ askC l p b o l.length c i, x.1 = true ∧ x.2)
    (hQ : ∀ a' W', Ev.Known 97 (slW b o l.length c g (v) i) a' → Ex.Rep w0 keep (Ex.E0 [segO b o l, cellB g (v)] none) W' → Q .normal a' W') : bodyC.wp Try.prog Q a W := by
  refine Ex.wp_run (ctxC_holds b o i p [false, false, false, true, false, false, false, false] [fun _ => Ex.casC g 60 (.int .u64 v) (.int .u64 (v))]) mixed 200 fC
    (Ex.traceP Try.prog (ctxC 1 0 5 ⟨2, 3, 4⟩ [false, false, false, true, false, false, false, false] [fun _ => Ex.casC 2 60 (.int .u64 9) (.int .u64 9)]) 200 fC bodyC ⟨97, slC 1 0 7 7 2 9 5⟩ [segO 1 0 [], cellB 2 9]) hK hR [0, 1, 5, 6] [4, 0] (by decide) (x := .normal) (m' := 97)
    (vs := fun ns _ => [.int .u64 (v), .slice (some ⟨b, o, none⟩) l.length c, .pointer (ptr g), .int .i64 (IntKind.i64.wrap ((i : Int) + 1))]) (L' := fun ns _ => [segO b o l, cellB g (v)])
    (q := fun ns ls => askC l p b o l.length c i ++ [(true, Value.bool (p.k == (2 : Int)) = .bool false), (true, Value.bool (p.k == (3 : Int)) = .bool false), (true, Value.bool (p.k == (4 : Int)) = .bool false), (true, Value.bool (p.k == (5 : Int)) = .bool true), (true, Value.bool (v == IntKind.u64.wrap p.n) = .bool false), (true, Ex.OpMeets Try.prog (callFunc 58 #[.pointer (ptr g), .int .u64 v, .int .u64 (v)]) (Ex.casC g 60 (.int .u64 v) (.int .u64 (v)))), (true, Value.bool (v == IntKind.u64.wrap p.n) = .bool false), (true, Value.bool (v != v) = .bool false), (true, Value.bool (v != v) = .bool false)])
    (fun ns ls => by kernel_rfl) (fun ns ls => by kernel_rfl) (fun ns ls => holds_app hA ⟨by rw [hk]; rfl, by rw [hk]; rfl, by rw [hk]; rfl, by rw [hk]; rfl, by rw [beq_eq_false_iff_ne.2 he], Ex.cas_met cas_u64 _ _ _ _, by rw [beq_eq_false_iff_ne.2 he], by rw [bne_self_eq_false], by rw [bne_self_eq_false], fun a' W' hK' hR' => hQ a' W' hK' hR'⟩)

theorem round6a {l : List O} {p : O} {b o c g i : Nat} {v : Int} {w0 W : World} {keep : Nat → Prop} {a : Act} (hk : p.k = 6) (he : v < p.v)
    (hK : Ev.Known 97 (slC b o l.length c g v i) a) (hR : Ex.Rep w0 keep (Ex.E0 [segO b o l, cellB g v] none) W) {Q : Exit → Act → World → Prop}
    (hA : ∀ x ∈ askC l p b o l.length c i, x.1 = true ∧ x.2)
    (hQ : ∀ a' W', Ev.Known 97 (slW b o l.length c g (p.v) i) a' → Ex.Rep w0 keep (Ex.E0 [segO b o l, cellB g (p.v)] none) W' → Q .normal a' W') : bodyC.wp Try.prog Q a W := by
  refine Ex.wp_run (ctxM_holds b o i p (p.v) [true, false, false] [fun _ => Ex.casC g 60 (.int .u64 v) (.int .u64 (p.v))]) mixed 200 fC
    (Ex.traceP Try.prog (ctxM 1 0 5 ⟨2, 3, 4⟩ 4 [true, false, false] [fun _ => Ex.casC 2 60 (.int .u64 9) (.int .u64 4)]) 200 fC bodyC ⟨97, slC 1 0 7 7 2 9 5⟩ [segO 1 0 [], cellB 2 9]) hK hR [0, 1, 5, 6] [3, 0] (by decide) (x := .normal) (m' := 97)
    (vs := fun ns _ => [.int .u64 (p.v), .slice (some ⟨b, o, none⟩) l.length c, .pointer (ptr g), .int .i64 (IntKind.i64.wrap ((i : Int) + 1))]) (L' := fun ns _ => [segO b o l, cellB g (p.v)])
    (q := fun ns ls => askC l p b o l.length c i ++ [(true, Value.bool (p.k == (2 : Int)) = .bool false), (true, Value.bool (p.k == (3 : Int)) = .bool false), (true, Value.bool (p.k == (4 : Int)) = .bool false), (true, Value.bool (p.k == (5 : Int)) = .bool false), (true, Value.bool (p.k == (6 : Int)) = .bool true), (true, ∀ W, (Ex.opV (Builtin.max_ #[22, 22] 22 #[.int .u64 v, .int .u64 p.v])).run Try.prog W = .ok (.value (.int .u64 (p.v))) W), (true, Ex.OpMeets Try.prog (callFunc 58 #[.pointer (ptr g), .int .u64 v, .int .u64 (p.v)]) (Ex.casC g 60 (.int .u64 v) (.int .u64 (p.v)))), (true, Value.bool (decide (v < p.v)) = .bool true), (true, Value.bool (v != v) = .bool false), (true, Value.bool (p.v != p.v) = .bool false)])
    (fun ns ls => by kernel_rfl) (fun ns ls => by kernel_rfl) (fun ns ls => holds_app hA ⟨by rw [hk]; rfl, by rw [hk]; rfl, by rw [hk]; rfl, by rw [hk]; rfl, by rw [hk]; rfl, max_met (if_pos he), Ex.cas_met cas_u64 _ _ _ _, by rw [decide_eq_true he], by rw [bne_self_eq_false], by rw [bne_self_eq_false], fun a' W' hK' hR' => hQ a' W' hK' hR'⟩)

theorem round6b {l : List O} {p : O} {b o c g i : Nat} {v : Int} {w0 W : World} {keep : Nat → Prop} {a : Act} (hk : p.k = 6) (he : ¬ v < p.v)
    (hK : Ev.Known 97 (slC b o l.length c g v i) a) (hR : Ex.Rep w0 keep (Ex.E0 [segO b o l, cellB g v] none) W) {Q : Exit → Act → World → Prop}
    (hA : ∀ x ∈ askC l p b o l.length c i, x.1 = true ∧ x.2)
    (hQ : ∀ a' W', Ev.Known 97 (slW b o l.length c g (v) i) a' → Ex.Rep w0 keep (Ex.E0 [segO b o l, cellB g (v)] none) W' → Q .normal a' W') : bodyC.wp Try.prog Q a W := by
  refine Ex.wp_run (ctxM_holds b o i p (v) [false, false, false] [fun _ => Ex.casC g 60 (.int .u64 v) (.int .u64 (v))]) mixed 200 fC
    (Ex.traceP Try.prog (ctxM 1 0 5 ⟨2, 3, 4⟩ 4 [false, false, false] [fun _ => Ex.casC 2 60 (.int .u64 9) (.int .u64 4)]) 200 fC bodyC ⟨97, slC 1 0 7 7 2 9 5⟩ [segO 1 0 [], cellB 2 9]) hK hR [0, 1, 5, 6] [3, 0] (by decide) (x := .normal) (m' := 97)
    (vs := fun ns _ => [.int .u64 (v), .slice (some ⟨b, o, none⟩) l.length c, .pointer (ptr g), .int .i64 (IntKind.i64.wrap ((i : Int) + 1))]) (L' := fun ns _ => [segO b o l, cellB g (v)])
    (q := fun ns ls => askC l p b o l.length c i ++ [(true, Value.bool (p.k == (2 : Int)) = .bool false), (true, Value.bool (p.k == (3 : Int)) = .bool false), (true, Value.bool (p.k == (4 : Int)) = .bool false), (true, Value.bool (p.k == (5 : Int)) = .bool false), (true, Value.bool (p.k == (6 : Int)) = .bool true), (true, ∀ W, (Ex.opV (Builtin.max_ #[22, 22] 22 #[.int .u64 v, .int .u64 p.v])).run Try.prog W = .ok (.value (.int .u64 (v))) W), (true, Ex.OpMeets Try.prog (callFunc 58 #[.pointer (ptr g), .int .u64 v, .int .u64 (v)]) (Ex.casC g 60 (.int .u64 v) (.int .u64 (v)))), (true, Value.bool (decide (v < p.v)) = .bool false), (true, Value.bool (v != v) = .bool false), (true, Value.bool (v != v) = .bool false)])
    (fun ns ls => by kernel_rfl) (fun ns ls => by kernel_rfl) (fun ns ls => holds_app hA ⟨by rw [hk]; rfl, by rw [hk]; rfl, by rw [hk]; rfl, by rw [hk]; rfl, by rw [hk]; rfl, max_met (if_neg he), Ex.cas_met cas_u64 _ _ _ _, by rw [decide_eq_false he], by rw [bne_self_eq_false], by rw [bne_self_eq_false], fun a' W' hK' hR' => hQ a' W' hK' hR'⟩)

theorem round0 {l : List O} {p : O} {b o c g i : Nat} {v : Int} {w0 W : World} {keep : Nat → Prop} {a : Act} (h2 : p.k ≠ 2) (h3 : p.k ≠ 3) (h4 : p.k ≠ 4) (h5 : p.k ≠ 5) (h6 : p.k ≠ 6)
    (hK : Ev.Known 97 (slC b o l.length c g v i) a) (hR : Ex.Rep w0 keep (Ex.E0 [segO b o l, cellB g v] none) W) {Q : Exit → Act → World → Prop}
    (hA : ∀ x ∈ askC l p b o l.length c i, x.1 = true ∧ x.2)
    (hQ : ∀ a' W', Ev.Known 97 (slW b o l.length c g (v) i) a' → Ex.Rep w0 keep (Ex.E0 [segO b o l, cellB g (v)] none) W' → Q .normal a' W') : bodyC.wp Try.prog Q a W := by
  refine Ex.wp_run (ctxC_holds b o i p [false, false, false, false, false, false, false] []) mixed 200 fC
    (Ex.traceP Try.prog (ctxC 1 0 5 ⟨2, 3, 4⟩ [false, false, false, false, false, false, false] []) 200 fC bodyC ⟨97, slC 1 0 7 7 2 9 5⟩ [segO 1 0 [], cellB 2 9]) hK hR [0, 1, 5, 6] [1, 2] (by decide) (x := .normal) (m' := 97)
    (vs := fun ns _ => [.int .u64 (v), .slice (some ⟨b, o, none⟩) l.length c, .pointer (ptr g), .int .i64 (IntKind.i64.wrap ((i : Int) + 1))]) (L' := fun ns _ => [segO b o l, cellB g (v)])
    (q := fun ns ls => askC l p b o l.length c i ++ [(true, Value.bool (p.k == (2 : Int)) = .bool false), (true, Value.bool (p.k == (3 : Int)) = .bool false), (true, Value.bool (p.k == (4 : Int)) = .bool false), (true, Value.bool (p.k == (5 : Int)) = .bool false), (true, Value.bool (p.k == (6 : Int)) = .bool false), (true, Value.bool (v != v) = .bool false), (true, Value.bool (v != v) = .bool false)])
    (fun ns ls => by kernel_rfl) (fun ns ls => by kernel_rfl) (fun ns ls => holds_app hA ⟨by rw [beq_eq_false_iff_ne.2 h2], by rw [beq_eq_false_iff_ne.2 h3], by rw [beq_eq_false_iff_ne.2 h4], by rw [beq_eq_false_iff_ne.2 h5], by rw [beq_eq_false_iff_ne.2 h6], by rw [bne_self_eq_false], by rw [bne_self_eq_false], fun a' W' hK' hR' => hQ a' W' hK' hR'⟩)

end Go.Proofs.Ytjohknpmhlildaa
