/-
  CodeEdges: each field of each operation at its ends and beside them.
-/
import Derived.Test.YtjcebkkmpgafkaaEdgesC
namespace Go.Proofs.Ytjcebkkmpgafkaa
open Go Go.RowKit

def regsL : List Int := [-1, 0, 1, 30, 31, 32]
def immsL : List Int := [-33554433, -33554432, -262145, -262144, -8, -1, 0, 1, 4, 7, 8, 30, 31, 32, 62, 63, 64, 4095, 4096, 32752, 32760, 32761, 32768, 65535, 65536, 262143, 262144, 33554431]
def condsL : List Int := [-1, 0, 3, 4, 12, 13, 14, 15]
def arrOf (l : List Int) : Array Value := (l.map fun x => Value.int .i64 x).toArray

def small (x : Int) : Bool := decide (-40000000 ≤ x) && decide (x ≤ 40000000)
theorem small_get {l : List Int} (h : l.all small = true) (i : Nat) : -40000000 ≤ l.getD i 0 ∧ l.getD i 0 ≤ 40000000 := by
  rw [List.getD_eq_getElem?_getD]
  cases hx : l[i]? with
  | none => simp
  | some x =>
    have := List.all_eq_true.1 h x (List.mem_of_getElem? hx)
    simpa [small] using this

def aI (k j : Nat) : I := { plainI k with rd := regsL.getD (j % 6) 0 }
def bI (k j : Nat) : I := { plainI k with rn := regsL.getD (j % 6) 0 }
def cI (k j : Nat) : I := { plainI k with rm := regsL.getD (j % 6) 0 }
def dI (k j : Nat) : I := { plainI k with imm := immsL.getD j 0 }
def eI (k j : Nat) : I := { plainI k with cond := condsL.getD (j % 8) 0 }
def farI (k : Nat) : I := { plainI k with imm := 33554432 }

theorem plain_fit (k : Nat) : (-1 ≤ (plainI k).rd ∧ (plainI k).rd ≤ 1) ∧ (-1 ≤ (plainI k).rn ∧ (plainI k).rn ≤ 1) ∧ (-1 ≤ (plainI k).rm ∧ (plainI k).rm ≤ 1) ∧ (-1 ≤ (plainI k).imm ∧ (plainI k).imm ≤ 1) ∧ (-1 ≤ (plainI k).cond ∧ (plainI k).cond ≤ 1) := by
  unfold plainI
  refine ⟨by simp, by simp, ?_, ?_, by simp⟩
  · show (-1 ≤ if k = 28 ∨ k = 29 then (1 : Int) else 0) ∧ (if k = 28 ∨ k = 29 then (1 : Int) else 0) ≤ 1
    split <;> simp
  · show (-1 ≤ if k = 14 then (1 : Int) else 0) ∧ (if k = 14 then (1 : Int) else 0) ≤ 1
    split <;> simp

def askP (i : I) : Ew.Hist → Ew.CallC := fun _ => Ew.plainC 18 #[.agg i.cells] (.bool true)
theorem askC (i : I) (h : i.fit) : ∀ x, Ew.Meets Try.prog (askP i x) := fun _ => Ew.meets_plain fun W => asked_any i h W

theorem fits5 (k j : Nat) : (aI k j).fit ∧ (bI k j).fit ∧ (cI k j).fit ∧ (dI k j).fit ∧ (eI k j).fit ∧ (farI k).fit := by
  have hr := small_get (l := regsL) (by decide) (j % 6)
  have hi := small_get (l := immsL) (by decide) j
  have hc := small_get (l := condsL) (by decide) (j % 8)
  obtain ⟨h1, h2, h3, h4, h5⟩ := plain_fit k
  refine ⟨⟨?_, ?_, ?_, ?_, ?_⟩, ⟨?_, ?_, ?_, ?_, ?_⟩, ⟨?_, ?_, ?_, ?_, ?_⟩, ⟨?_, ?_, ?_, ?_, ?_⟩, ⟨?_, ?_, ?_, ?_, ?_⟩, ⟨?_, ?_, ?_, ?_, ?_⟩⟩ <;> (simp only [aI, bI, cI, dI, eI, farI]; omega)

def tabs (r1 r2 r3 : Nat) (b : Nat) (p : I) : List (Nat × Obj) := [(r1, .cells (arrOf regsL) 31 (0, 0)), (r2, .cells (arrOf immsL) 32 (0, 0)), (r3, .cells (arrOf condsL) 33 (0, 0)), (b, .cells p.cells 34 (0, 0))]
def blks (l : List (Nat × Obj)) (own : Bool) : List Ew.Blk := l.map fun p => ⟨p.1, p.2, own⟩
def fE : FuncId := 5
def slI (r1 r2 r3 b k j : Nat) : List (Nat × Value) := [(1, .pointer (some ⟨r1, 0, none⟩)), (2, .pointer (some ⟨r2, 0, none⟩)), (3, .pointer (some ⟨r3, 0, none⟩)), (4, .int .i64 k), (5, .pointer (some ⟨b, 0, none⟩)), (6, .int .i64 j)]
noncomputable def ctxI (r1 r2 r3 b k j : Nat) : Ew.Ctx :=
  Ew.mkCtx [18] [askP (aI k j), askP (bI k j), askP (cI k j), askP (dI k j), askP (eI k j)]
    [] [] [] [] [fun _ => copies (.pointer (some ⟨r1, 0, none⟩)) (.pointer (some ⟨r2, 0, none⟩)) (.pointer (some ⟨r3, 0, none⟩)) (.int .i64 k) (.int .i64 j) b (plainI k).cells] [(5, 11)]

theorem ctxI_holds (r1 r2 r3 b k j : Nat) : (ctxI r1 r2 r3 b k j).holds Try.prog := by
  obtain ⟨h1, h2, h3, h4, h5, -⟩ := fits5 k j
  exact Ew.mk_holds (Ew.cons_c (askC _ h1) (Ew.cons_c (askC _ h2) (Ew.cons_c (askC _ h3) (Ew.cons_c (askC _ h4) (Ew.cons_c (askC _ h5) Ew.nil_c))))) (Ew.cons_l (fun _ => copies_met _ _ _ _ _ _ _) Ew.nil_l)

noncomputable def innerC : Code := Ew.loopBody Try.f5 1

def baseT (r1 r2 r3 b k : Nat) : List Ew.Blk := blks (tabs r1 r2 r3 b (plainI k)) false
noncomputable def innerL (r1 r2 r3 b k : Nat) : Ew.LoopC :=
  ⟨.loop innerC, 89, slI r1 r2 r3 b k 0, Ew.readM (tabs r1 r2 r3 b (plainI k)), .exit 2, fun _ => (slI r1 r2 r3 b k 0).take 5⟩

theorem wrap_j (j : Nat) (hj : j < 28) : IntKind.i64.wrap ((j : Int) + 1) = ((j + 1 : Nat) : Int) := by
  rw [IntWalk.i64_in _ (by omega)]; omega

theorem blk_rep {l : List (Nat × Obj)} {W W' : World} (h : ∀ p ∈ l, W.heap[p.1]? = some p.2) (hn : (l.map (·.1)).Nodup) (hb : Below W.heap.size W W') : Ew.Rep W (fun _ => True) (Ew.E0 (blks l false) none) W' :=
  ⟨hb.os, hb.tape, hb.output, hb.size, fun k hk _ => hb.block k hk, fun q hq => by
    obtain ⟨p, hp, rfl⟩ := List.mem_map.1 hq
    have := h p hp
    exact ⟨(hb.block p.1 (Array.getElem?_eq_some_iff.1 this).1).trans this, fun h => (by cases h)⟩, by
    have : (blks l false).map (·.nm) = l.map (·.1) := by simp [blks]
    show ((blks l false).map (·.nm)).Nodup
    rw [this]; exact hn⟩

theorem inner_round (r1 r2 r3 b k : Nat) (j : Nat) (hj : j < 28) {w0 W : World} {a : Act} (hK : Ev.Known 89 (slI r1 r2 r3 b k j) a) (hR : Ew.Rep w0 (fun _ => True) (Ew.E0 (baseT r1 r2 r3 b k) none) W) {Q : Exit → Act → World → Prop}
    (hQ : ∀ a' W', Ev.Known 89 (slI r1 r2 r3 b k (j + 1)) a' → Ew.Rep w0 (fun _ => True) (Ew.E0 (baseT r1 r2 r3 b k) none) W' → Q .normal a' W') : innerC.wp Try.prog Q a W := by
  rcases (show j = 0 ∨ j = 1 ∨ j = 2 ∨ j = 3 ∨ j = 4 ∨ j = 5 ∨ j = 6 ∨ j = 7 ∨ j = 8 ∨ j = 9 ∨ j = 10 ∨ j = 11 ∨ j = 12 ∨ j = 13 ∨ j = 14 ∨ j = 15 ∨ j = 16 ∨ j = 17 ∨ j = 18 ∨ j = 19 ∨ j = 20 ∨ j = 21 ∨ j = 22 ∨ j = 23 ∨ j = 24 ∨ j = 25 ∨ j = 26 ∨ j = 27 by omega) with rfl | rfl | rfl | rfl | rfl | rfl | rfl | rfl | rfl | rfl | rfl | rfl | rfl | rfl | rfl | rfl | rfl | rfl | rfl | rfl | rfl | rfl | rfl | rfl | rfl | rfl | rfl | rfl
  · exact Ew.wp_run (ctxI_holds r1 r2 r3 b k 0) mixed 200 fE (Ew.traceP Try.prog (ctxI 1 2 3 4 5 0) 200 fE innerC ⟨89, slI 1 2 3 4 5 0⟩ (baseT 1 2 3 4 5)) hK hR [1, 2, 3, 4, 5, 6] [6, 7, 8, 5] (by decide) (x := .normal) (m' := 89) (vs := fun _ _ => (slI r1 r2 r3 b k 1).map Prod.snd) (L' := fun _ _ => baseT r1 r2 r3 b k) (q := fun _ _ => [(false, True)]) (fun ns ls => by kernel_rfl) (fun ns ls => by kernel_rfl) (fun _ _ _ a1 W1 h1 h2 => hQ a1 W1 h1 h2)
  · exact Ew.wp_run (ctxI_holds r1 r2 r3 b k 1) mixed 200 fE (Ew.traceP Try.prog (ctxI 1 2 3 4 5 1) 200 fE innerC ⟨89, slI 1 2 3 4 5 1⟩ (baseT 1 2 3 4 5)) hK hR [1, 2, 3, 4, 5, 6] [6, 7, 8, 5] (by decide) (x := .normal) (m' := 89) (vs := fun _ _ => (slI r1 r2 r3 b k 2).map Prod.snd) (L' := fun _ _ => baseT r1 r2 r3 b k) (q := fun _ _ => [(false, True)]) (fun ns ls => by kernel_rfl) (fun ns ls => by kernel_rfl) (fun _ _ _ a1 W1 h1 h2 => hQ a1 W1 h1 h2)
  · exact Ew.wp_run (ctxI_holds r1 r2 r3 b k 2) mixed 200 fE (Ew.traceP Try.prog (ctxI 1 2 3 4 5 2) 200 fE innerC ⟨89, slI 1 2 3 4 5 2⟩ (baseT 1 2 3 4 5)) hK hR [1, 2, 3, 4, 5, 6] [6, 7, 8, 5] (by decide) (x := .normal) (m' := 89) (vs := fun _ _ => (slI r1 r2 r3 b k 3).map Prod.snd) (L' := fun _ _ => baseT r1 r2 r3 b k) (q := fun _ _ => [(false, True)]) (fun ns ls => by kernel_rfl) (fun ns ls => by kernel_rfl) (fun _ _ _ a1 W1 h1 h2 => hQ a1 W1 h1 h2)
  · exact Ew.wp_run (ctxI_holds r1 r2 r3 b k 3) mixed 200 fE (Ew.traceP Try.prog (ctxI 1 2 3 4 5 3) 200 fE innerC ⟨89, slI 1 2 3 4 5 3⟩ (baseT 1 2 3 4 5)) hK hR [1, 2, 3, 4, 5, 6] [6, 7, 8, 5] (by decide) (x := .normal) (m' := 89) (vs := fun _ _ => (slI r1 r2 r3 b k 4).map Prod.snd) (L' := fun _ _ => baseT r1 r2 r3 b k) (q := fun _ _ => [(false, True)]) (fun ns ls => by kernel_rfl) (fun ns ls => by kernel_rfl) (fun _ _ _ a1 W1 h1 h2 => hQ a1 W1 h1 h2)
  · exact Ew.wp_run (ctxI_holds r1 r2 r3 b k 4) mixed 200 fE (Ew.traceP Try.prog (ctxI 1 2 3 4 5 4) 200 fE innerC ⟨89, slI 1 2 3 4 5 4⟩ (baseT 1 2 3 4 5)) hK hR [1, 2, 3, 4, 5, 6] [6, 7, 8, 5] (by decide) (x := .normal) (m' := 89) (vs := fun _ _ => (slI r1 r2 r3 b k 5).map Prod.snd) (L' := fun _ _ => baseT r1 r2 r3 b k) (q := fun _ _ => [(false, True)]) (fun ns ls => by kernel_rfl) (fun ns ls => by kernel_rfl) (fun _ _ _ a1 W1 h1 h2 => hQ a1 W1 h1 h2)
  · exact Ew.wp_run (ctxI_holds r1 r2 r3 b k 5) mixed 200 fE (Ew.traceP Try.prog (ctxI 1 2 3 4 5 5) 200 fE innerC ⟨89, slI 1 2 3 4 5 5⟩ (baseT 1 2 3 4 5)) hK hR [1, 2, 3, 4, 5, 6] [6, 7, 8, 5] (by decide) (x := .normal) (m' := 89) (vs := fun _ _ => (slI r1 r2 r3 b k 6).map Prod.snd) (L' := fun _ _ => baseT r1 r2 r3 b k) (q := fun _ _ => [(false, True)]) (fun ns ls => by kernel_rfl) (fun ns ls => by kernel_rfl) (fun _ _ _ a1 W1 h1 h2 => hQ a1 W1 h1 h2)
  · exact Ew.wp_run (ctxI_holds r1 r2 r3 b k 6) mixed 200 fE (Ew.traceP Try.prog (ctxI 1 2 3 4 5 6) 200 fE innerC ⟨89, slI 1 2 3 4 5 6⟩ (baseT 1 2 3 4 5)) hK hR [1, 2, 3, 4, 5, 6] [6, 7, 8, 5] (by decide) (x := .normal) (m' := 89) (vs := fun _ _ => (slI r1 r2 r3 b k 7).map Prod.snd) (L' := fun _ _ => baseT r1 r2 r3 b k) (q := fun _ _ => [(false, True)]) (fun ns ls => by kernel_rfl) (fun ns ls => by kernel_rfl) (fun _ _ _ a1 W1 h1 h2 => hQ a1 W1 h1 h2)
  · exact Ew.wp_run (ctxI_holds r1 r2 r3 b k 7) mixed 200 fE (Ew.traceP Try.prog (ctxI 1 2 3 4 5 7) 200 fE innerC ⟨89, slI 1 2 3 4 5 7⟩ (baseT 1 2 3 4 5)) hK hR [1, 2, 3, 4, 5, 6] [6, 7, 8, 5] (by decide) (x := .normal) (m' := 89) (vs := fun _ _ => (slI r1 r2 r3 b k 8).map Prod.snd) (L' := fun _ _ => baseT r1 r2 r3 b k) (q := fun _ _ => [(false, True)]) (fun ns ls => by kernel_rfl) (fun ns ls => by kernel_rfl) (fun _ _ _ a1 W1 h1 h2 => hQ a1 W1 h1 h2)
  · exact Ew.wp_run (ctxI_holds r1 r2 r3 b k 8) mixed 200 fE (Ew.traceP Try.prog (ctxI 1 2 3 4 5 8) 200 fE innerC ⟨89, slI 1 2 3 4 5 8⟩ (baseT 1 2 3 4 5)) hK hR [1, 2, 3, 4, 5, 6] [6, 7, 8, 5] (by decide) (x := .normal) (m' := 89) (vs := fun _ _ => (slI r1 r2 r3 b k 9).map Prod.snd) (L' := fun _ _ => baseT r1 r2 r3 b k) (q := fun _ _ => [(false, True)]) (fun ns ls => by kernel_rfl) (fun ns ls => by kernel_rfl) (fun _ _ _ a1 W1 h1 h2 => hQ a1 W1 h1 h2)
  · exact Ew.wp_run (ctxI_holds r1 r2 r3 b k 9) mixed 200 fE (Ew.traceP Try.prog (ctxI 1 2 3 4 5 9) 200 fE innerC ⟨89, slI 1 2 3 4 5 9⟩ (baseT 1 2 3 4 5)) hK hR [1, 2, 3, 4, 5, 6] [6, 7, 8, 5] (by decide) (x := .normal) (m' := 89) (vs := fun _ _ => (slI r1 r2 r3 b k 10).map Prod.snd) (L' := fun _ _ => baseT r1 r2 r3 b k) (q := fun _ _ => [(false, True)]) (fun ns ls => by kernel_rfl) (fun ns ls => by kernel_rfl) (fun _ _ _ a1 W1 h1 h2 => hQ a1 W1 h1 h2)
  · exact Ew.wp_run (ctxI_holds r1 r2 r3 b k 10) mixed 200 fE (Ew.traceP Try.prog (ctxI 1 2 3 4 5 10) 200 fE innerC ⟨89, slI 1 2 3 4 5 10⟩ (baseT 1 2 3 4 5)) hK hR [1, 2, 3, 4, 5, 6] [6, 7, 8, 5] (by decide) (x := .normal) (m' := 89) (vs := fun _ _ => (slI r1 r2 r3 b k 11).map Prod.snd) (L' := fun _ _ => baseT r1 r2 r3 b k) (q := fun _ _ => [(false, True)]) (fun ns ls => by kernel_rfl) (fun ns ls => by kernel_rfl) (fun _ _ _ a1 W1 h1 h2 => hQ a1 W1 h1 h2)
  · exact Ew.wp_run (ctxI_holds r1 r2 r3 b k 11) mixed 200 fE (Ew.traceP Try.prog (ctxI 1 2 3 4 5 11) 200 fE innerC ⟨89, slI 1 2 3 4 5 11⟩ (baseT 1 2 3 4 5)) hK hR [1, 2, 3, 4, 5, 6] [6, 7, 8, 5] (by decide) (x := .normal) (m' := 89) (vs := fun _ _ => (slI r1 r2 r3 b k 12).map Prod.snd) (L' := fun _ _ => baseT r1 r2 r3 b k) (q := fun _ _ => [(false, True)]) (fun ns ls => by kernel_rfl) (fun ns ls => by kernel_rfl) (fun _ _ _ a1 W1 h1 h2 => hQ a1 W1 h1 h2)
  · exact Ew.wp_run (ctxI_holds r1 r2 r3 b k 12) mixed 200 fE (Ew.traceP Try.prog (ctxI 1 2 3 4 5 12) 200 fE innerC ⟨89, slI 1 2 3 4 5 12⟩ (baseT 1 2 3 4 5)) hK hR [1, 2, 3, 4, 5, 6] [6, 7, 8, 5] (by decide) (x := .normal) (m' := 89) (vs := fun _ _ => (slI r1 r2 r3 b k 13).map Prod.snd) (L' := fun _ _ => baseT r1 r2 r3 b k) (q := fun _ _ => [(false, True)]) (fun ns ls => by kernel_rfl) (fun ns ls => by kernel_rfl) (fun _ _ _ a1 W1 h1 h2 => hQ a1 W1 h1 h2)
  · exact Ew.wp_run (ctxI_holds r1 r2 r3 b k 13) mixed 200 fE (Ew.traceP Try.prog (ctxI 1 2 3 4 5 13) 200 fE innerC ⟨89, slI 1 2 3 4 5 13⟩ (baseT 1 2 3 4 5)) hK hR [1, 2, 3, 4, 5, 6] [6, 7, 8, 5] (by decide) (x := .normal) (m' := 89) (vs := fun _ _ => (slI r1 r2 r3 b k 14).map Prod.snd) (L' := fun _ _ => baseT r1 r2 r3 b k) (q := fun _ _ => [(false, True)]) (fun ns ls => by kernel_rfl) (fun ns ls => by kernel_rfl) (fun _ _ _ a1 W1 h1 h2 => hQ a1 W1 h1 h2)
  · exact Ew.wp_run (ctxI_holds r1 r2 r3 b k 14) mixed 200 fE (Ew.traceP Try.prog (ctxI 1 2 3 4 5 14) 200 fE innerC ⟨89, slI 1 2 3 4 5 14⟩ (baseT 1 2 3 4 5)) hK hR [1, 2, 3, 4, 5, 6] [6, 7, 8, 5] (by decide) (x := .normal) (m' := 89) (vs := fun _ _ => (slI r1 r2 r3 b k 15).map Prod.snd) (L' := fun _ _ => baseT r1 r2 r3 b k) (q := fun _ _ => [(false, True)]) (fun ns ls => by kernel_rfl) (fun ns ls => by kernel_rfl) (fun _ _ _ a1 W1 h1 h2 => hQ a1 W1 h1 h2)
  · exact Ew.wp_run (ctxI_holds r1 r2 r3 b k 15) mixed 200 fE (Ew.traceP Try.prog (ctxI 1 2 3 4 5 15) 200 fE innerC ⟨89, slI 1 2 3 4 5 15⟩ (baseT 1 2 3 4 5)) hK hR [1, 2, 3, 4, 5, 6] [6, 7, 8, 5] (by decide) (x := .normal) (m' := 89) (vs := fun _ _ => (slI r1 r2 r3 b k 16).map Prod.snd) (L' := fun _ _ => baseT r1 r2 r3 b k) (q := fun _ _ => [(false, True)]) (fun ns ls => by kernel_rfl) (fun ns ls => by kernel_rfl) (fun _ _ _ a1 W1 h1 h2 => hQ a1 W1 h1 h2)
  · exact Ew.wp_run (ctxI_holds r1 r2 r3 b k 16) mixed 200 fE (Ew.traceP Try.prog (ctxI 1 2 3 4 5 16) 200 fE innerC ⟨89, slI 1 2 3 4 5 16⟩ (baseT 1 2 3 4 5)) hK hR [1, 2, 3, 4, 5, 6] [6, 7, 8, 5] (by decide) (x := .normal) (m' := 89) (vs := fun _ _ => (slI r1 r2 r3 b k 17).map Prod.snd) (L' := fun _ _ => baseT r1 r2 r3 b k) (q := fun _ _ => [(false, True)]) (fun ns ls => by kernel_rfl) (fun ns ls => by kernel_rfl) (fun _ _ _ a1 W1 h1 h2 => hQ a1 W1 h1 h2)
  · exact Ew.wp_run (ctxI_holds r1 r2 r3 b k 17) mixed 200 fE (Ew.traceP Try.prog (ctxI 1 2 3 4 5 17) 200 fE innerC ⟨89, slI 1 2 3 4 5 17⟩ (baseT 1 2 3 4 5)) hK hR [1, 2, 3, 4, 5, 6] [6, 7, 8, 5] (by decide) (x := .normal) (m' := 89) (vs := fun _ _ => (slI r1 r2 r3 b k 18).map Prod.snd) (L' := fun _ _ => baseT r1 r2 r3 b k) (q := fun _ _ => [(false, True)]) (fun ns ls => by kernel_rfl) (fun ns ls => by kernel_rfl) (fun _ _ _ a1 W1 h1 h2 => hQ a1 W1 h1 h2)
  · exact Ew.wp_run (ctxI_holds r1 r2 r3 b k 18) mixed 200 fE (Ew.traceP Try.prog (ctxI 1 2 3 4 5 18) 200 fE innerC ⟨89, slI 1 2 3 4 5 18⟩ (baseT 1 2 3 4 5)) hK hR [1, 2, 3, 4, 5, 6] [6, 7, 8, 5] (by decide) (x := .normal) (m' := 89) (vs := fun _ _ => (slI r1 r2 r3 b k 19).map Prod.snd) (L' := fun _ _ => baseT r1 r2 r3 b k) (q := fun _ _ => [(false, True)]) (fun ns ls => by kernel_rfl) (fun ns ls => by kernel_rfl) (fun _ _ _ a1 W1 h1 h2 => hQ a1 W1 h1 h2)
  · exact Ew.wp_run (ctxI_holds r1 r2 r3 b k 19) mixed 200 fE (Ew.traceP Try.prog (ctxI 1 2 3 4 5 19) 200 fE innerC ⟨89, slI 1 2 3 4 5 19⟩ (baseT 1 2 3 4 5)) hK hR [1, 2, 3, 4, 5, 6] [6, 7, 8, 5] (by decide) (x := .normal) (m' := 89) (vs := fun _ _ => (slI r1 r2 r3 b k 20).map Prod.snd) (L' := fun _ _ => baseT r1 r2 r3 b k) (q := fun _ _ => [(false, True)]) (fun ns ls => by kernel_rfl) (fun ns ls => by kernel_rfl) (fun _ _ _ a1 W1 h1 h2 => hQ a1 W1 h1 h2)
  · exact Ew.wp_run (ctxI_holds r1 r2 r3 b k 20) mixed 200 fE (Ew.traceP Try.prog (ctxI 1 2 3 4 5 20) 200 fE innerC ⟨89, slI 1 2 3 4 5 20⟩ (baseT 1 2 3 4 5)) hK hR [1, 2, 3, 4, 5, 6] [6, 7, 8, 5] (by decide) (x := .normal) (m' := 89) (vs := fun _ _ => (slI r1 r2 r3 b k 21).map Prod.snd) (L' := fun _ _ => baseT r1 r2 r3 b k) (q := fun _ _ => [(false, True)]) (fun ns ls => by kernel_rfl) (fun ns ls => by kernel_rfl) (fun _ _ _ a1 W1 h1 h2 => hQ a1 W1 h1 h2)
  · exact Ew.wp_run (ctxI_holds r1 r2 r3 b k 21) mixed 200 fE (Ew.traceP Try.prog (ctxI 1 2 3 4 5 21) 200 fE innerC ⟨89, slI 1 2 3 4 5 21⟩ (baseT 1 2 3 4 5)) hK hR [1, 2, 3, 4, 5, 6] [6, 7, 8, 5] (by decide) (x := .normal) (m' := 89) (vs := fun _ _ => (slI r1 r2 r3 b k 22).map Prod.snd) (L' := fun _ _ => baseT r1 r2 r3 b k) (q := fun _ _ => [(false, True)]) (fun ns ls => by kernel_rfl) (fun ns ls => by kernel_rfl) (fun _ _ _ a1 W1 h1 h2 => hQ a1 W1 h1 h2)
  · exact Ew.wp_run (ctxI_holds r1 r2 r3 b k 22) mixed 200 fE (Ew.traceP Try.prog (ctxI 1 2 3 4 5 22) 200 fE innerC ⟨89, slI 1 2 3 4 5 22⟩ (baseT 1 2 3 4 5)) hK hR [1, 2, 3, 4, 5, 6] [6, 7, 8, 5] (by decide) (x := .normal) (m' := 89) (vs := fun _ _ => (slI r1 r2 r3 b k 23).map Prod.snd) (L' := fun _ _ => baseT r1 r2 r3 b k) (q := fun _ _ => [(false, True)]) (fun ns ls => by kernel_rfl) (fun ns ls => by kernel_rfl) (fun _ _ _ a1 W1 h1 h2 => hQ a1 W1 h1 h2)
  · exact Ew.wp_run (ctxI_holds r1 r2 r3 b k 23) mixed 200 fE (Ew.traceP Try.prog (ctxI 1 2 3 4 5 23) 200 fE innerC ⟨89, slI 1 2 3 4 5 23⟩ (baseT 1 2 3 4 5)) hK hR [1, 2, 3, 4, 5, 6] [6, 7, 8, 5] (by decide) (x := .normal) (m' := 89) (vs := fun _ _ => (slI r1 r2 r3 b k 24).map Prod.snd) (L' := fun _ _ => baseT r1 r2 r3 b k) (q := fun _ _ => [(false, True)]) (fun ns ls => by kernel_rfl) (fun ns ls => by kernel_rfl) (fun _ _ _ a1 W1 h1 h2 => hQ a1 W1 h1 h2)
  · exact Ew.wp_run (ctxI_holds r1 r2 r3 b k 24) mixed 200 fE (Ew.traceP Try.prog (ctxI 1 2 3 4 5 24) 200 fE innerC ⟨89, slI 1 2 3 4 5 24⟩ (baseT 1 2 3 4 5)) hK hR [1, 2, 3, 4, 5, 6] [6, 7, 8, 5] (by decide) (x := .normal) (m' := 89) (vs := fun _ _ => (slI r1 r2 r3 b k 25).map Prod.snd) (L' := fun _ _ => baseT r1 r2 r3 b k) (q := fun _ _ => [(false, True)]) (fun ns ls => by kernel_rfl) (fun ns ls => by kernel_rfl) (fun _ _ _ a1 W1 h1 h2 => hQ a1 W1 h1 h2)
  · exact Ew.wp_run (ctxI_holds r1 r2 r3 b k 25) mixed 200 fE (Ew.traceP Try.prog (ctxI 1 2 3 4 5 25) 200 fE innerC ⟨89, slI 1 2 3 4 5 25⟩ (baseT 1 2 3 4 5)) hK hR [1, 2, 3, 4, 5, 6] [6, 7, 8, 5] (by decide) (x := .normal) (m' := 89) (vs := fun _ _ => (slI r1 r2 r3 b k 26).map Prod.snd) (L' := fun _ _ => baseT r1 r2 r3 b k) (q := fun _ _ => [(false, True)]) (fun ns ls => by kernel_rfl) (fun ns ls => by kernel_rfl) (fun _ _ _ a1 W1 h1 h2 => hQ a1 W1 h1 h2)
  · exact Ew.wp_run (ctxI_holds r1 r2 r3 b k 26) mixed 200 fE (Ew.traceP Try.prog (ctxI 1 2 3 4 5 26) 200 fE innerC ⟨89, slI 1 2 3 4 5 26⟩ (baseT 1 2 3 4 5)) hK hR [1, 2, 3, 4, 5, 6] [6, 7, 8, 5] (by decide) (x := .normal) (m' := 89) (vs := fun _ _ => (slI r1 r2 r3 b k 27).map Prod.snd) (L' := fun _ _ => baseT r1 r2 r3 b k) (q := fun _ _ => [(false, True)]) (fun ns ls => by kernel_rfl) (fun ns ls => by kernel_rfl) (fun _ _ _ a1 W1 h1 h2 => hQ a1 W1 h1 h2)
  · exact Ew.wp_run (ctxI_holds r1 r2 r3 b k 27) mixed 200 fE (Ew.traceP Try.prog (ctxI 1 2 3 4 5 27) 200 fE innerC ⟨89, slI 1 2 3 4 5 27⟩ (baseT 1 2 3 4 5)) hK hR [1, 2, 3, 4, 5, 6] [6, 7, 8, 5] (by decide) (x := .normal) (m' := 89) (vs := fun _ _ => (slI r1 r2 r3 b k 28).map Prod.snd) (L' := fun _ _ => baseT r1 r2 r3 b k) (q := fun _ _ => [(false, True)]) (fun ns ls => by kernel_rfl) (fun ns ls => by kernel_rfl) (fun _ _ _ a1 W1 h1 h2 => hQ a1 W1 h1 h2)

theorem inner_met (r1 r2 r3 b k : Nat) : Ew.MeetsL Try.prog (innerL r1 r2 r3 b k) := by
  intro a W hK hpre
  show (Code.loop innerC).wp _ _ _ _
  refine wp_loop (fun a wr => ∃ j : Nat, j ≤ 28 ∧ Ev.Known 89 (slI r1 r2 r3 b k j) a ∧ Ew.Rep W (fun _ => True) (Ew.E0 (baseT r1 r2 r3 b k) none) wr)
    (fun a _ => 28 - (intOf (a.tmps.getD 6 undef)).toNat) ?_ ?_
  · exact ⟨0, by omega, hK, blk_rep hpre.1 (by have := hpre.3; simpa [innerL, Ew.readM] using this) (Below.refl _ _)⟩
  · rintro a wr ⟨j, hj, hK, hR⟩
    have hmu : ∀ {a' : Act} {i : Nat}, Ev.Known 89 (slI r1 r2 r3 b k i) a' → (intOf (a'.tmps.getD 6 undef)).toNat = i := fun {a' i} h => by
      have := h.get (6, .int .i64 i) (by simp [slI])
      simp only at this
      rw [this]; rfl
    by_cases h28 : j < 28
    · refine inner_round r1 r2 r3 b k j h28 hK hR fun a' W' hK' hR' => ?_
      refine ⟨⟨j + 1, by omega, hK', hR'⟩, ?_⟩
      rw [hmu hK', hmu hK]
      omega
    · have : j = 28 := by omega
      subst this
      refine Ew.wp_run (ctxI_holds r1 r2 r3 b k 28) mixed 200 fE (some []) hK hR [1, 2, 3, 4, 5] [0, 1, 2, 3] (by decide) (x := .exit 2) (m' := 89) (vs := fun _ _ => ((slI r1 r2 r3 b k 0).take 5).map Prod.snd) (L' := fun _ _ => baseT r1 r2 r3 b k) (q := fun _ _ => []) (fun ns ls => by kernel_rfl) (fun ns ls => by kernel_rfl) (fun _ _ a' W' hK' hR' => ?_)
      simp only [Exit.then]
      exact ⟨rfl, [], hK', Ew.post_read hR'.below⟩

/-! ### The outer loop -/

noncomputable def outerC : Code := Ew.loopBody Try.f5 0
def slO (r1 r2 r3 k : Nat) : List (Nat × Value) := [(1, .pointer (some ⟨r1, 0, none⟩)), (2, .pointer (some ⟨r2, 0, none⟩)), (3, .pointer (some ⟨r3, 0, none⟩)), (4, .int .i64 k)]
def tabsO (r1 r2 r3 : Nat) : List (Nat × Obj) := [(r1, .cells (arrOf regsL) 31 (0, 0)), (r2, .cells (arrOf immsL) 32 (0, 0)), (r3, .cells (arrOf condsL) 33 (0, 0))]
noncomputable def ctxO (r1 r2 r3 k : Nat) (go : Bool) : Ew.Ctx :=
  Ew.mkCtx [18, 17, 19]
    [fun _ => Ew.plainC 17 #[.int .i64 k] (.agg (plainI k).cells), askP (farI k), fun _ => Ew.plainC 19 #[.int .i64 k] (.bool true)]
    [(5, 17)] [] [fun _ => .bool go] [5] [fun h => innerL r1 r2 r3 (nameOf h 0) k]
theorem ctxO_holds (r1 r2 r3 k : Nat) (h1 : 1 ≤ k) (hk : k < 48) (go : Bool) : (ctxO r1 r2 r3 k go).holds Try.prog :=
  Ew.mk_holds (Ew.cons_c (fun _ => Ew.meets_plain fun W => plain_call k W) (Ew.cons_c (askC _ (fits5 k 0).2.2.2.2.2) (Ew.cons_c (fun _ => Ew.meets_plain fun W => decs_any k h1 hk W) Ew.nil_c))) (Ew.cons_l (fun _ => inner_met _ _ _ _ _) Ew.nil_l)

noncomputable def outerL (r1 r2 r3 : Nat) : Ew.LoopC :=
  ⟨.loop outerC, 89, slO r1 r2 r3 1, Ew.readM (tabsO r1 r2 r3), .exit 0, fun _ => []⟩

theorem outer_met (r1 r2 r3 : Nat) : Ew.MeetsL Try.prog (outerL r1 r2 r3) := by
  intro a W hK hpre
  show (Code.loop outerC).wp _ _ _ _
  refine wp_loop (fun a wr => ∃ k : Nat, 1 ≤ k ∧ k ≤ 48 ∧ Ev.Known 89 (slO r1 r2 r3 k) a ∧ Ew.Rep W (fun _ => True) (Ew.E0 (blks (tabsO r1 r2 r3) false) none) wr)
    (fun a _ => 48 - (intOf (a.tmps.getD 4 undef)).toNat) ?_ ?_
  · exact ⟨1, by omega, by omega, hK, blk_rep hpre.1 (by have := hpre.3; simpa [outerL, Ew.readM] using this) (Below.refl _ _)⟩
  · rintro a wr ⟨k, h1, hk, hK, hR⟩
    have hmu : ∀ {a' : Act} {i : Nat}, Ev.Known 89 (slO r1 r2 r3 i) a' → (intOf (a'.tmps.getD 4 undef)).toNat = i := fun {a' i} h => by
      have := h.get (4, .int .i64 i) (by simp [slO])
      simp only at this
      rw [this]; rfl
    by_cases h48 : k < 48
    · refine Ew.wp_run (ctxO_holds r1 r2 r3 k h1 h48 true) mixed 200 fE (Ew.traceP Try.prog (ctxO 1 2 3 5 true) 200 fE outerC ⟨89, slO 1 2 3 5⟩ (blks (tabsO 1 2 3) false)) hK hR [1, 2, 3, 4] [1, 2, 3] (by decide) (x := .normal) (m' := 89) (vs := fun _ _ => [.pointer (some ⟨r1, 0, none⟩), .pointer (some ⟨r2, 0, none⟩), .pointer (some ⟨r3, 0, none⟩), .int .i64 (IntKind.i64.wrap ((k : Int) + 1))]) (L' := fun _ _ => blks (tabsO r1 r2 r3) false)
        (q := fun _ _ => [(true, Value.bool (decide ((k : Int) ≤ 47)) = .bool true)]) (fun ns ls => by kernel_rfl) (fun ns ls => by kernel_rfl) (fun _ _ => ⟨?_, fun a' W' hK' hR' => ?_⟩)
      · rw [decide_eq_true (by omega)]
      · rw [IntWalk.i64_in _ (by omega)] at hK'
        have hK2 : Ev.Known 89 (slO r1 r2 r3 (k + 1)) a' := hK'
        refine ⟨⟨k + 1, by omega, by omega, hK2, hR'⟩, ?_⟩
        rw [hmu hK2, hmu hK]
        omega
    · have : k = 48 := by omega
      subst this
      refine Ew.wp_run (S := Ew.mkCtx [] [] [] [] [] [] []) (Ew.mk_holds Ew.nil_c Ew.nil_l) mixed 200 fE (some []) hK hR [] [0, 1, 2] (by decide) (x := .exit 0) (m' := 89) (vs := fun _ _ => []) (L' := fun _ _ => blks (tabsO r1 r2 r3) false) (q := fun _ _ => []) (fun ns ls => by kernel_rfl) (fun ns ls => by kernel_rfl) (fun _ _ a' W' hK' hR' => ?_)
      simp only [Exit.then]
      exact ⟨rfl, [], hK', Ew.post_read hR'.below⟩

theorem edges_any (W : World) : Calls Try.prog 5 #[] W fun e w' => e = .returned (.bool true) ∧ Below W.heap.size W w' :=
  Ew.calls_value (S := Ew.mkCtx [14] [fun _ => Ew.plainC 14 #[] (.bool true)] [] [] [] [5] [fun h => outerL (nameOf h 2) (nameOf h 1) (nameOf h 0)])
    (Ew.mk_holds (Ew.cons_c (fun _ => Ew.meets_plain fun W => awake_any W) Ew.nil_c) (Ew.cons_l (fun _ => outer_met _ _ _) Ew.nil_l)) mixed 200 (.bool true) (fun _ _ => []) (fun ns ls => by kernel_rfl) (fun ns ls => by kernel_rfl) (fun _ _ => trivial) W

end Go.Proofs.Ytjcebkkmpgafkaa
