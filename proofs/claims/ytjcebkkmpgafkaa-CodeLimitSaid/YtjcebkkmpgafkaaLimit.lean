/-
  CodeLimit: MaxWords are taken, one more is not.
-/
import Derived.Test.YtjcebkkmpgafkaaWordsB
namespace Go.Proofs.Ytjcebkkmpgafkaa
open Go Go.RowKit
open Ex (Cont num)

def nopI : I := ⟨32, 0, 0, 0, 0, 0⟩
def fM : FuncId := 12
noncomputable def bodyM : Code := Ex.loopBody Try.f12 0
def nopC : Cont := .obj (.cells nopI.cells 25 (0, 0))
def rowX (g k cap : Nat) (xs : List Value) : Ex.Blk := ⟨g, .row 25 6 k cap xs, true⟩

def ctxM (k : Nat) (use : List (Nat × Cont)) (xs : List Value) (go : Bool) : Ex.Ctx :=
  Ex.mkCtx [] [] [(fM, 16)] [] [fun _ => .bool go] [] [] [] [] [(fM, 22)] [fun h => Ex.appC [(num h 0, nopC)] use 25 6 k 1 (xs ++ nopI.cells.toList)]
theorem ctxM_holds (k : Nat) (use : List (Nat × Cont)) (xs : List Value) (go : Bool) : (ctxM k use xs go).holds Try.prog := Ex.mk_holds Ex.nil_c Ex.nil_l

theorem nop_one : ∀ u ∈ nopI.cells.toList, u.oneCell' = true := fun u hu => by
  simp only [nopI, I.cells, List.mem_cons, List.not_mem_nil, or_false] at hu
  rcases hu with rfl | rfl | rfl | rfl | rfl | rfl <;> rfl
theorem nop_at : ∀ (j : Nat) (u : Value), nopI.cells.toList[j]? = some u → nopC.at (0 + j) = some u := fun j u hu => by
  rw [Nat.zero_add]
  exact hu

def nops (k : Nat) : List Value := insCells (List.replicate k nopI)
theorem nops_succ (k : Nat) : nops (k + 1) = nops k ++ nopI.cells.toList := by
  unfold nops
  rw [List.replicate_succ', insCells, List.flatMap_append]
  simp [insCells]

def slM (k : Nat) (v : Value) : List (Nat × Value) := [(1, v), (2, .int .i64 k)]

theorem roundM_a {w0 W : World} {a : Act} (hK : Ev.Known 107 (slM 0 (.slice none 0 0)) a) (hR : Ex.Rep w0 (fun _ => True) (Ex.E0 [] none) W) {Q : Exit → Act → World → Prop}
    (hQ : ∀ g cap a' W', Ev.Known 107 (slM 1 (.slice (some ⟨g, 0, none⟩) 1 cap)) a' → Ex.Rep w0 (fun _ => True) (Ex.E0 [rowX g 1 cap (nops 1)] none) W' → Q .normal a' W') : bodyM.wp Try.prog Q a W := by
  refine Ex.wp_run (ctxM_holds 0 [] [] true) mixed 200 fM (Ex.traceP Try.prog (ctxM 0 [] [] true) 200 fM bodyM ⟨107, slM 0 (.slice none 0 0)⟩ []) hK hR [1, 2] [0] (by decide) (x := .normal) (m' := 107)
    (vs := fun ns _ => [.slice (some ⟨ns 1, 0, none⟩) 1 (ns 2), .int .i64 1]) (L' := fun ns _ => [rowX (ns 1) 1 (ns 2) nopI.cells.toList])
    (q := fun ns ls => [(true, Value.bool (decide (((0 : Nat) : Int) < 16384)) = .bool true), (true, Ex.OpMeets Try.prog (Ex.appSem 50 50 (.slice none 0 0) (.slice (some ⟨ns 0, 0, none⟩) 1 1)) (Ex.appC [(ns 0, nopC)] [] 25 6 0 1 nopI.cells.toList)), (false, 1 ≤ ns 2)])
    (fun ns ls => by kernel_rfl) (fun ns ls => by kernel_rfl) (fun ns ls => ⟨by simp, ?_, fun _ a' W' hK' hR' => hQ _ _ a' W' hK' hR'⟩)
  exact Ex.app_met elemI (xs := []) (.inl ⟨rfl, rfl, rfl, rfl⟩) rfl (by omega) nop_one (by simp only [maxLen]; omega) (by omega) nop_at

theorem roundM_b (k g cap : Nat) (hk : k < 16384) {w0 W : World} {a : Act} (hK : Ev.Known 107 (slM k (.slice (some ⟨g, 0, none⟩) k cap)) a) (hR : Ex.Rep w0 (fun _ => True) (Ex.E0 [rowX g k cap (nops k)] none) W) {Q : Exit → Act → World → Prop}
    (hQ : ∀ g' cap' a' W', Ev.Known 107 (slM (k + 1) (.slice (some ⟨g', 0, none⟩) (k + 1) cap')) a' → Ex.Rep w0 (fun _ => True) (Ex.E0 [rowX g' (k + 1) cap' (nops (k + 1))] none) W' → Q .normal a' W') : bodyM.wp Try.prog Q a W := by
  refine Ex.wp_run (ctxM_holds k [(g, .row 25 6 k cap (nops k))] (nops k) true) mixed 200 fM
    (Ex.traceP Try.prog (ctxM 5 [(2, .row 25 6 5 7 [])] [] true) 200 fM bodyM ⟨107, slM 5 (.slice (some ⟨2, 0, none⟩) 5 7)⟩ [rowX 2 5 7 []]) hK hR [1, 2] [0] (by decide) (x := .normal) (m' := 107)
    (vs := fun ns _ => [.slice (some ⟨ns 1, 0, none⟩) (k + 1) (ns 2), .int .i64 (IntKind.i64.wrap ((k : Int) + 1))]) (L' := fun ns _ => [rowX (ns 1) (k + 1) (ns 2) (nops k ++ nopI.cells.toList)])
    (q := fun ns ls => [(true, Value.bool (decide ((k : Int) < 16384)) = .bool true), (true, Ex.OpMeets Try.prog (Ex.appSem 50 50 (.slice (some ⟨g, 0, none⟩) k cap) (.slice (some ⟨ns 0, 0, none⟩) 1 1)) (Ex.appC [(ns 0, nopC)] [(g, .row 25 6 k cap (nops k))] 25 6 k 1 (nops k ++ nopI.cells.toList))), (false, k + 1 ≤ ns 2)])
    (fun ns ls => by kernel_rfl) (fun ns ls => by kernel_rfl) (fun ns ls => ⟨by rw [decide_eq_true (by omega)], ?_, fun _ a' W' hK' hR' => hQ _ _ a' W' ?_ (by rw [nops_succ]; exact hR')⟩)
  · exact Ex.app_met elemI (.inr ⟨g, cap, rfl, rfl⟩) rfl (by omega) nop_one (by simp only [maxLen]; omega) (by omega) nop_at
  · rw [wrap_succ' k 16384 hk (by omega)] at hK'
    exact hK'

theorem slotM {i : Nat} {v : Value} {a' : Act} (h : Ev.Known 107 (slM i v) a') : (intOf (a'.tmps.getD 2 undef)).toNat = i := by
  have := h.get (2, .int .i64 i) (by simp [slM])
  simp only at this
  rw [this]; rfl

noncomputable def loopM (xs : List Value) : Ex.LoopC :=
  ⟨.loop bodyM, 107, slM 0 (.slice none 0 0), ⟨[], [], 2, fun ns => 16384 ≤ num ns 1, fun ns => [(num ns 0, .row 25 6 16384 (num ns 1) xs)]⟩, .exit 0, fun ns => [(1, .slice (some ⟨num ns 0, 0, none⟩) 16384 (num ns 1))]⟩
theorem loopM_met (xs : List Value) (hxs : xs = nops 16384) : Ex.MeetsL Try.prog (loopM xs) := by
  intro a0 W hK0 hpre
  show (Code.loop bodyM).wp _ _ _ _
  refine wp_loop (fun a wr => ∃ k : Nat, k ≤ 16384 ∧ ((k = 0 ∧ Ev.Known 107 (slM 0 (.slice none 0 0)) a ∧ Ex.Rep W (fun _ => True) (Ex.E0 [] none) wr) ∨
      (0 < k ∧ ∃ g cap, Ev.Known 107 (slM k (.slice (some ⟨g, 0, none⟩) k cap)) a ∧ Ex.Rep W (fun _ => True) (Ex.E0 [rowX g k cap (nops k)] none) wr)))
    (fun a _ => 16384 - (intOf (a.tmps.getD 2 undef)).toNat) ?_ ?_
  · exact ⟨0, by omega, .inl ⟨rfl, hK0, (Ex.rep_start W)⟩⟩
  · rintro a wr ⟨k, hk, ⟨rfl, hK, hR⟩ | ⟨hk0, g, cap, hK, hR⟩⟩
    · refine roundM_a hK hR fun g cap a' W' hK' hR' => ?_
      refine ⟨⟨1, by omega, .inr ⟨by omega, g, cap, hK', hR'⟩⟩, ?_⟩
      rw [slotM hK', slotM hK]
      omega
    · by_cases hlt : k < 16384
      · refine roundM_b k g cap hlt hK hR fun g' cap' a' W' hK' hR' => ?_
        refine ⟨⟨k + 1, by omega, .inr ⟨by omega, g', cap', hK', hR'⟩⟩, ?_⟩
        rw [slotM hK', slotM hK]
        omega
      · obtain rfl : k = 16384 := by omega
        rw [← hxs] at hR
        clear hxs
        refine Ex.wp_run (ctxM_holds 0 [] [] false) mixed 200 fM (some []) hK hR [1] [0] (by decide) (x := .exit 0) (m' := 107)
          (vs := fun ns _ => [.slice (some ⟨g, 0, none⟩) 16384 cap]) (L' := fun ns _ => [rowX g 16384 cap xs]) (q := fun ns ls => [(true, Value.bool (decide (((16384 : Nat) : Int) < 16384)) = .bool false)])
          (fun ns ls => by kernel_rfl) (fun ns ls => by kernel_rfl) (fun ns ls => ⟨by simp, fun a' W' hK' hR' => ?_⟩)
        simp only [Exit.then]
        obtain ⟨h1, h2⟩ := new_row (g := g) (ct := .row 25 6 16384 cap xs) hR' (by simp [rowX])
        have hb := hR'.below
        refine ⟨rfl, [(g, []), (cap, [])], hK', rfl, ?_, hb.os, hb.tape, hb.output, hb.size, fun k hk _ => hb.block k hk, fun p hp => ?_, by simp [loopM]⟩
        · obtain ⟨cur, -, -, h, -⟩ := h2
          exact h
        · rcases List.mem_singleton.1 hp with rfl
          exact ⟨.inl h1, h2⟩

end Go.Proofs.Ytjcebkkmpgafkaa
