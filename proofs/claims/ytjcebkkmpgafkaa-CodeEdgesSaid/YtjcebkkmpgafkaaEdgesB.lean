/-
  CodeEdges: region 11: five copies of an instruction, in whatever order. (Printed by gen_edges.py.)
-/
import Derived.Test.YtjcebkkmpgafkaaEdgesA
namespace Go.Proofs.Ytjcebkkmpgafkaa
open Go Go.RowKit

theorem slots_known {n : Nat} {ks : List Nat} {vs : List Value} {a : Act} (h : Ev.Known n (ks.zip vs) a) (hl : ks.length = vs.length) : slotsOf a ks = vs := by
  unfold slotsOf
  apply List.ext_getElem
  · simpa using hl
  · intro i h1 h2
    rw [List.getElem_map]
    have h1' : i < ks.length := by simpa using h1
    exact h.get (ks[i], vs[i]) (List.mem_iff_getElem.2 ⟨i, by simp; omega, by simp⟩)

theorem known_of {n : Nat} {l : List (Nat × Value)} {a : Act} (h : Ev.Known n l a) {ks : List (Nat × Value)} (hs : slotsOf a (ks.map (·.1)) = ks.map (·.2)) : Ev.Known n ks a :=
  ⟨h.defers, h.size, fun p hp => by
    unfold slotsOf at hs
    rw [List.map_map] at hs
    exact List.map_inj_left.1 hs p hp⟩


def slE (v1 v2 v3 v4 v6 : Value) (b : Nat) : List (Nat × Value) := [(1, v1), (2, v2), (3, v3), (4, v4), (5, .pointer (some ⟨b, 0, none⟩)), (6, v6)]
def ksE : List Nat := [1, 2, 3, 4, 5, 6, 7, 8, 9, 10, 11, 26, 27, 28, 29, 30]

structure InvE (v1 v2 v3 v4 v6 : Value) (b : Nat) (p : I) (W0 : World) (listed : Array Bool) (a : Act) (w : World) : Prop where
  k : Ev.Known 89 (slE v1 v2 v3 v4 v6 b) a
  r : R5 W0 34 p.cells listed (slotsOf a [7, 8, 9, 10, 11]) (slotsOf a [26, 27, 28, 29, 30]) w
  hb : W0.heap[b]? = some (.cells p.cells 34 (0, 0))
  hl : b < W0.heap.size

noncomputable def ops11 : Array Oper := Ew.opsOf r11
theorem ops11_size : ops11.size = 15 := by kernel_rfl


theorem step_load0 {v1 v2 v3 v4 v6 : Value} {b : Nat} {p : I} {W0 w : World} {listed : Array Bool} {a : Act} (hI : InvE v1 v2 v3 v4 v6 b p W0 listed a w) {Q : Exit → Act → World → Prop} : wpOp Try.prog ops11 Q 0 (InvE v1 v2 v3 v4 v6 b p W0 (listed.setIfInBounds 0 true)) a w := by
  have hw : w.heap[b]? = some (.cells p.cells 34 (0, 0)) := (hI.r.below.block b hI.hl).trans hI.hb
  have hr : Ew.Rep w (fun _ => True) (Ew.E0 [⟨b, .cells p.cells 34 (0, 0), false⟩] none) w := ⟨rfl, rfl, rfl, Nat.le_refl _, fun _ _ _ => rfl, fun q hq => by
    rcases List.mem_singleton.1 hq with rfl
    exact ⟨hw, fun h => (by cases h)⟩, by simp [Ew.E0]⟩
  refine op_run (some [0, 0, 0, 0, 0, 0]) hI.k hr (fn := 5) ksE (m' := 89) (vs := fun _ => [v1, v2, v3, v4, .pointer (some ⟨b, 0, none⟩), v6, (Ev.F.get ⟨89, slE v1 v2 v3 v4 v6 b ++ Ev.argsW 0 a.tmps.toList⟩ 7), (Ev.F.get ⟨89, slE v1 v2 v3 v4 v6 b ++ Ev.argsW 0 a.tmps.toList⟩ 8), (Ev.F.get ⟨89, slE v1 v2 v3 v4 v6 b ++ Ev.argsW 0 a.tmps.toList⟩ 9), (Ev.F.get ⟨89, slE v1 v2 v3 v4 v6 b ++ Ev.argsW 0 a.tmps.toList⟩ 10), (Ev.F.get ⟨89, slE v1 v2 v3 v4 v6 b ++ Ev.argsW 0 a.tmps.toList⟩ 11), .agg p.cells, (Ev.F.get ⟨89, slE v1 v2 v3 v4 v6 b ++ Ev.argsW 0 a.tmps.toList⟩ 27), (Ev.F.get ⟨89, slE v1 v2 v3 v4 v6 b ++ Ev.argsW 0 a.tmps.toList⟩ 28), (Ev.F.get ⟨89, slE v1 v2 v3 v4 v6 b ++ Ev.argsW 0 a.tmps.toList⟩ 29), (Ev.F.get ⟨89, slE v1 v2 v3 v4 v6 b ++ Ev.argsW 0 a.tmps.toList⟩ 30)]) (L' := fun _ => [⟨b, .cells p.cells 34 (0, 0), false⟩]) (fun ns ls => by kernel_rfl) (fun ns ls => by kernel_rfl) ?_
  · intro ns a' W' hK hR
    have hv := slots_known hK rfl
    have hg := hI.k.rel.get
    refine ⟨known_of hK (ks := slE v1 v2 v3 v4 v6 b) (congrArg (fun x => x.take 6) hv), ?_, hI.hb, hI.hl⟩
    have hps : slotsOf a' [7, 8, 9, 10, 11] = _ := congrArg (fun x => (x.drop 6).take 5) hv
    have hvs : slotsOf a' [26, 27, 28, 29, 30] = _ := congrArg (fun x => (x.drop 11).take 5) hv
    rw [hps, hvs]
    have h5 := (hI.r.keep hR.below).load 0 (by omega)
    rw [slots_rel hI.k.rel, slots_rel hI.k.rel] at h5
    exact h5

theorem step_load1 {v1 v2 v3 v4 v6 : Value} {b : Nat} {p : I} {W0 w : World} {listed : Array Bool} {a : Act} (hI : InvE v1 v2 v3 v4 v6 b p W0 listed a w) {Q : Exit → Act → World → Prop} : wpOp Try.prog ops11 Q 1 (InvE v1 v2 v3 v4 v6 b p W0 (listed.setIfInBounds 1 true)) a w := by
  have hw : w.heap[b]? = some (.cells p.cells 34 (0, 0)) := (hI.r.below.block b hI.hl).trans hI.hb
  have hr : Ew.Rep w (fun _ => True) (Ew.E0 [⟨b, .cells p.cells 34 (0, 0), false⟩] none) w := ⟨rfl, rfl, rfl, Nat.le_refl _, fun _ _ _ => rfl, fun q hq => by
    rcases List.mem_singleton.1 hq with rfl
    exact ⟨hw, fun h => (by cases h)⟩, by simp [Ew.E0]⟩
  refine op_run (some [0, 0, 0, 0, 0, 0]) hI.k hr (fn := 5) ksE (m' := 89) (vs := fun _ => [v1, v2, v3, v4, .pointer (some ⟨b, 0, none⟩), v6, (Ev.F.get ⟨89, slE v1 v2 v3 v4 v6 b ++ Ev.argsW 0 a.tmps.toList⟩ 7), (Ev.F.get ⟨89, slE v1 v2 v3 v4 v6 b ++ Ev.argsW 0 a.tmps.toList⟩ 8), (Ev.F.get ⟨89, slE v1 v2 v3 v4 v6 b ++ Ev.argsW 0 a.tmps.toList⟩ 9), (Ev.F.get ⟨89, slE v1 v2 v3 v4 v6 b ++ Ev.argsW 0 a.tmps.toList⟩ 10), (Ev.F.get ⟨89, slE v1 v2 v3 v4 v6 b ++ Ev.argsW 0 a.tmps.toList⟩ 11), (Ev.F.get ⟨89, slE v1 v2 v3 v4 v6 b ++ Ev.argsW 0 a.tmps.toList⟩ 26), .agg p.cells, (Ev.F.get ⟨89, slE v1 v2 v3 v4 v6 b ++ Ev.argsW 0 a.tmps.toList⟩ 28), (Ev.F.get ⟨89, slE v1 v2 v3 v4 v6 b ++ Ev.argsW 0 a.tmps.toList⟩ 29), (Ev.F.get ⟨89, slE v1 v2 v3 v4 v6 b ++ Ev.argsW 0 a.tmps.toList⟩ 30)]) (L' := fun _ => [⟨b, .cells p.cells 34 (0, 0), false⟩]) (fun ns ls => by kernel_rfl) (fun ns ls => by kernel_rfl) ?_
  · intro ns a' W' hK hR
    have hv := slots_known hK rfl
    have hg := hI.k.rel.get
    refine ⟨known_of hK (ks := slE v1 v2 v3 v4 v6 b) (congrArg (fun x => x.take 6) hv), ?_, hI.hb, hI.hl⟩
    have hps : slotsOf a' [7, 8, 9, 10, 11] = _ := congrArg (fun x => (x.drop 6).take 5) hv
    have hvs : slotsOf a' [26, 27, 28, 29, 30] = _ := congrArg (fun x => (x.drop 11).take 5) hv
    rw [hps, hvs]
    have h5 := (hI.r.keep hR.below).load 1 (by omega)
    rw [slots_rel hI.k.rel, slots_rel hI.k.rel] at h5
    exact h5

theorem step_load2 {v1 v2 v3 v4 v6 : Value} {b : Nat} {p : I} {W0 w : World} {listed : Array Bool} {a : Act} (hI : InvE v1 v2 v3 v4 v6 b p W0 listed a w) {Q : Exit → Act → World → Prop} : wpOp Try.prog ops11 Q 2 (InvE v1 v2 v3 v4 v6 b p W0 (listed.setIfInBounds 2 true)) a w := by
  have hw : w.heap[b]? = some (.cells p.cells 34 (0, 0)) := (hI.r.below.block b hI.hl).trans hI.hb
  have hr : Ew.Rep w (fun _ => True) (Ew.E0 [⟨b, .cells p.cells 34 (0, 0), false⟩] none) w := ⟨rfl, rfl, rfl, Nat.le_refl _, fun _ _ _ => rfl, fun q hq => by
    rcases List.mem_singleton.1 hq with rfl
    exact ⟨hw, fun h => (by cases h)⟩, by simp [Ew.E0]⟩
  refine op_run (some [0, 0, 0, 0, 0, 0]) hI.k hr (fn := 5) ksE (m' := 89) (vs := fun _ => [v1, v2, v3, v4, .pointer (some ⟨b, 0, none⟩), v6, (Ev.F.get ⟨89, slE v1 v2 v3 v4 v6 b ++ Ev.argsW 0 a.tmps.toList⟩ 7), (Ev.F.get ⟨89, slE v1 v2 v3 v4 v6 b ++ Ev.argsW 0 a.tmps.toList⟩ 8), (Ev.F.get ⟨89, slE v1 v2 v3 v4 v6 b ++ Ev.argsW 0 a.tmps.toList⟩ 9), (Ev.F.get ⟨89, slE v1 v2 v3 v4 v6 b ++ Ev.argsW 0 a.tmps.toList⟩ 10), (Ev.F.get ⟨89, slE v1 v2 v3 v4 v6 b ++ Ev.argsW 0 a.tmps.toList⟩ 11), (Ev.F.get ⟨89, slE v1 v2 v3 v4 v6 b ++ Ev.argsW 0 a.tmps.toList⟩ 26), (Ev.F.get ⟨89, slE v1 v2 v3 v4 v6 b ++ Ev.argsW 0 a.tmps.toList⟩ 27), .agg p.cells, (Ev.F.get ⟨89, slE v1 v2 v3 v4 v6 b ++ Ev.argsW 0 a.tmps.toList⟩ 29), (Ev.F.get ⟨89, slE v1 v2 v3 v4 v6 b ++ Ev.argsW 0 a.tmps.toList⟩ 30)]) (L' := fun _ => [⟨b, .cells p.cells 34 (0, 0), false⟩]) (fun ns ls => by kernel_rfl) (fun ns ls => by kernel_rfl) ?_
  · intro ns a' W' hK hR
    have hv := slots_known hK rfl
    have hg := hI.k.rel.get
    refine ⟨known_of hK (ks := slE v1 v2 v3 v4 v6 b) (congrArg (fun x => x.take 6) hv), ?_, hI.hb, hI.hl⟩
    have hps : slotsOf a' [7, 8, 9, 10, 11] = _ := congrArg (fun x => (x.drop 6).take 5) hv
    have hvs : slotsOf a' [26, 27, 28, 29, 30] = _ := congrArg (fun x => (x.drop 11).take 5) hv
    rw [hps, hvs]
    have h5 := (hI.r.keep hR.below).load 2 (by omega)
    rw [slots_rel hI.k.rel, slots_rel hI.k.rel] at h5
    exact h5

theorem step_load3 {v1 v2 v3 v4 v6 : Value} {b : Nat} {p : I} {W0 w : World} {listed : Array Bool} {a : Act} (hI : InvE v1 v2 v3 v4 v6 b p W0 listed a w) {Q : Exit → Act → World → Prop} : wpOp Try.prog ops11 Q 3 (InvE v1 v2 v3 v4 v6 b p W0 (listed.setIfInBounds 3 true)) a w := by
  have hw : w.heap[b]? = some (.cells p.cells 34 (0, 0)) := (hI.r.below.block b hI.hl).trans hI.hb
  have hr : Ew.Rep w (fun _ => True) (Ew.E0 [⟨b, .cells p.cells 34 (0, 0), false⟩] none) w := ⟨rfl, rfl, rfl, Nat.le_refl _, fun _ _ _ => rfl, fun q hq => by
    rcases List.mem_singleton.1 hq with rfl
    exact ⟨hw, fun h => (by cases h)⟩, by simp [Ew.E0]⟩
  refine op_run (some [0, 0, 0, 0, 0, 0]) hI.k hr (fn := 5) ksE (m' := 89) (vs := fun _ => [v1, v2, v3, v4, .pointer (some ⟨b, 0, none⟩), v6, (Ev.F.get ⟨89, slE v1 v2 v3 v4 v6 b ++ Ev.argsW 0 a.tmps.toList⟩ 7), (Ev.F.get ⟨89, slE v1 v2 v3 v4 v6 b ++ Ev.argsW 0 a.tmps.toList⟩ 8), (Ev.F.get ⟨89, slE v1 v2 v3 v4 v6 b ++ Ev.argsW 0 a.tmps.toList⟩ 9), (Ev.F.get ⟨89, slE v1 v2 v3 v4 v6 b ++ Ev.argsW 0 a.tmps.toList⟩ 10), (Ev.F.get ⟨89, slE v1 v2 v3 v4 v6 b ++ Ev.argsW 0 a.tmps.toList⟩ 11), (Ev.F.get ⟨89, slE v1 v2 v3 v4 v6 b ++ Ev.argsW 0 a.tmps.toList⟩ 26), (Ev.F.get ⟨89, slE v1 v2 v3 v4 v6 b ++ Ev.argsW 0 a.tmps.toList⟩ 27), (Ev.F.get ⟨89, slE v1 v2 v3 v4 v6 b ++ Ev.argsW 0 a.tmps.toList⟩ 28), .agg p.cells, (Ev.F.get ⟨89, slE v1 v2 v3 v4 v6 b ++ Ev.argsW 0 a.tmps.toList⟩ 30)]) (L' := fun _ => [⟨b, .cells p.cells 34 (0, 0), false⟩]) (fun ns ls => by kernel_rfl) (fun ns ls => by kernel_rfl) ?_
  · intro ns a' W' hK hR
    have hv := slots_known hK rfl
    have hg := hI.k.rel.get
    refine ⟨known_of hK (ks := slE v1 v2 v3 v4 v6 b) (congrArg (fun x => x.take 6) hv), ?_, hI.hb, hI.hl⟩
    have hps : slotsOf a' [7, 8, 9, 10, 11] = _ := congrArg (fun x => (x.drop 6).take 5) hv
    have hvs : slotsOf a' [26, 27, 28, 29, 30] = _ := congrArg (fun x => (x.drop 11).take 5) hv
    rw [hps, hvs]
    have h5 := (hI.r.keep hR.below).load 3 (by omega)
    rw [slots_rel hI.k.rel, slots_rel hI.k.rel] at h5
    exact h5

theorem step_load4 {v1 v2 v3 v4 v6 : Value} {b : Nat} {p : I} {W0 w : World} {listed : Array Bool} {a : Act} (hI : InvE v1 v2 v3 v4 v6 b p W0 listed a w) {Q : Exit → Act → World → Prop} : wpOp Try.prog ops11 Q 4 (InvE v1 v2 v3 v4 v6 b p W0 (listed.setIfInBounds 4 true)) a w := by
  have hw : w.heap[b]? = some (.cells p.cells 34 (0, 0)) := (hI.r.below.block b hI.hl).trans hI.hb
  have hr : Ew.Rep w (fun _ => True) (Ew.E0 [⟨b, .cells p.cells 34 (0, 0), false⟩] none) w := ⟨rfl, rfl, rfl, Nat.le_refl _, fun _ _ _ => rfl, fun q hq => by
    rcases List.mem_singleton.1 hq with rfl
    exact ⟨hw, fun h => (by cases h)⟩, by simp [Ew.E0]⟩
  refine op_run (some [0, 0, 0, 0, 0, 0]) hI.k hr (fn := 5) ksE (m' := 89) (vs := fun _ => [v1, v2, v3, v4, .pointer (some ⟨b, 0, none⟩), v6, (Ev.F.get ⟨89, slE v1 v2 v3 v4 v6 b ++ Ev.argsW 0 a.tmps.toList⟩ 7), (Ev.F.get ⟨89, slE v1 v2 v3 v4 v6 b ++ Ev.argsW 0 a.tmps.toList⟩ 8), (Ev.F.get ⟨89, slE v1 v2 v3 v4 v6 b ++ Ev.argsW 0 a.tmps.toList⟩ 9), (Ev.F.get ⟨89, slE v1 v2 v3 v4 v6 b ++ Ev.argsW 0 a.tmps.toList⟩ 10), (Ev.F.get ⟨89, slE v1 v2 v3 v4 v6 b ++ Ev.argsW 0 a.tmps.toList⟩ 11), (Ev.F.get ⟨89, slE v1 v2 v3 v4 v6 b ++ Ev.argsW 0 a.tmps.toList⟩ 26), (Ev.F.get ⟨89, slE v1 v2 v3 v4 v6 b ++ Ev.argsW 0 a.tmps.toList⟩ 27), (Ev.F.get ⟨89, slE v1 v2 v3 v4 v6 b ++ Ev.argsW 0 a.tmps.toList⟩ 28), (Ev.F.get ⟨89, slE v1 v2 v3 v4 v6 b ++ Ev.argsW 0 a.tmps.toList⟩ 29), .agg p.cells]) (L' := fun _ => [⟨b, .cells p.cells 34 (0, 0), false⟩]) (fun ns ls => by kernel_rfl) (fun ns ls => by kernel_rfl) ?_
  · intro ns a' W' hK hR
    have hv := slots_known hK rfl
    have hg := hI.k.rel.get
    refine ⟨known_of hK (ks := slE v1 v2 v3 v4 v6 b) (congrArg (fun x => x.take 6) hv), ?_, hI.hb, hI.hl⟩
    have hps : slotsOf a' [7, 8, 9, 10, 11] = _ := congrArg (fun x => (x.drop 6).take 5) hv
    have hvs : slotsOf a' [26, 27, 28, 29, 30] = _ := congrArg (fun x => (x.drop 11).take 5) hv
    rw [hps, hvs]
    have h5 := (hI.r.keep hR.below).load 4 (by omega)
    rw [slots_rel hI.k.rel, slots_rel hI.k.rel] at h5
    exact h5

theorem step_alloc0 {v1 v2 v3 v4 v6 : Value} {b : Nat} {p : I} {W0 w : World} {listed : Array Bool} {a : Act} (hI : InvE v1 v2 v3 v4 v6 b p W0 listed a w) (hno : listed.getD 10 false = false) {Q : Exit → Act → World → Prop} : wpOp Try.prog ops11 Q 5 (InvE v1 v2 v3 v4 v6 b p W0 (listed.setIfInBounds 5 true)) a w := by
  refine op_run (some []) hI.k (Ew.rep_start w) (fn := 5) ksE (m' := 89) (vs := fun ns => [v1, v2, v3, v4, .pointer (some ⟨b, 0, none⟩), v6, .pointer (some ⟨ns 0, 0, none⟩), (Ev.F.get ⟨89, slE v1 v2 v3 v4 v6 b ++ Ev.argsW 0 a.tmps.toList⟩ 8), (Ev.F.get ⟨89, slE v1 v2 v3 v4 v6 b ++ Ev.argsW 0 a.tmps.toList⟩ 9), (Ev.F.get ⟨89, slE v1 v2 v3 v4 v6 b ++ Ev.argsW 0 a.tmps.toList⟩ 10), (Ev.F.get ⟨89, slE v1 v2 v3 v4 v6 b ++ Ev.argsW 0 a.tmps.toList⟩ 11), (Ev.F.get ⟨89, slE v1 v2 v3 v4 v6 b ++ Ev.argsW 0 a.tmps.toList⟩ 26), (Ev.F.get ⟨89, slE v1 v2 v3 v4 v6 b ++ Ev.argsW 0 a.tmps.toList⟩ 27), (Ev.F.get ⟨89, slE v1 v2 v3 v4 v6 b ++ Ev.argsW 0 a.tmps.toList⟩ 28), (Ev.F.get ⟨89, slE v1 v2 v3 v4 v6 b ++ Ev.argsW 0 a.tmps.toList⟩ 29), (Ev.F.get ⟨89, slE v1 v2 v3 v4 v6 b ++ Ev.argsW 0 a.tmps.toList⟩ 30)]) (L' := fun ns => [⟨ns 0, .cells #[.int .i64 0, .int .i64 0, .int .i64 0, .int .i64 0, .int .i64 0, .int .i64 0] 34 (0, 0), true⟩]) (fun ns ls => by kernel_rfl) (fun ns ls => by kernel_rfl) ?_
  · intro ns a' W' hK hR
    have hnew := hR.blk _ (List.mem_singleton_self _)
    have hge : w.heap.size ≤ ns 0 := by
      rcases Nat.lt_or_ge (ns 0) w.heap.size with h | h
      · exact (hnew.2 rfl h trivial).elim
      · exact h
    have hv := slots_known hK rfl
    have hg := hI.k.rel.get
    refine ⟨known_of hK (ks := slE v1 v2 v3 v4 v6 b) (congrArg (fun x => x.take 6) hv), ?_, hI.hb, hI.hl⟩
    have hps : slotsOf a' [7, 8, 9, 10, 11] = _ := congrArg (fun x => (x.drop 6).take 5) hv
    have hvs : slotsOf a' [26, 27, 28, 29, 30] = _ := congrArg (fun x => (x.drop 11).take 5) hv
    rw [hps, hvs]
    have h5 := hI.r.alloc 0 (by omega) hno _ rfl (ns 0) hR.below hge hnew.1
    rw [slots_rel hI.k.rel, slots_rel hI.k.rel] at h5
    exact h5

theorem step_alloc1 {v1 v2 v3 v4 v6 : Value} {b : Nat} {p : I} {W0 w : World} {listed : Array Bool} {a : Act} (hI : InvE v1 v2 v3 v4 v6 b p W0 listed a w) (hno : listed.getD 11 false = false) {Q : Exit → Act → World → Prop} : wpOp Try.prog ops11 Q 6 (InvE v1 v2 v3 v4 v6 b p W0 (listed.setIfInBounds 6 true)) a w := by
  refine op_run (some []) hI.k (Ew.rep_start w) (fn := 5) ksE (m' := 89) (vs := fun ns => [v1, v2, v3, v4, .pointer (some ⟨b, 0, none⟩), v6, (Ev.F.get ⟨89, slE v1 v2 v3 v4 v6 b ++ Ev.argsW 0 a.tmps.toList⟩ 7), .pointer (some ⟨ns 0, 0, none⟩), (Ev.F.get ⟨89, slE v1 v2 v3 v4 v6 b ++ Ev.argsW 0 a.tmps.toList⟩ 9), (Ev.F.get ⟨89, slE v1 v2 v3 v4 v6 b ++ Ev.argsW 0 a.tmps.toList⟩ 10), (Ev.F.get ⟨89, slE v1 v2 v3 v4 v6 b ++ Ev.argsW 0 a.tmps.toList⟩ 11), (Ev.F.get ⟨89, slE v1 v2 v3 v4 v6 b ++ Ev.argsW 0 a.tmps.toList⟩ 26), (Ev.F.get ⟨89, slE v1 v2 v3 v4 v6 b ++ Ev.argsW 0 a.tmps.toList⟩ 27), (Ev.F.get ⟨89, slE v1 v2 v3 v4 v6 b ++ Ev.argsW 0 a.tmps.toList⟩ 28), (Ev.F.get ⟨89, slE v1 v2 v3 v4 v6 b ++ Ev.argsW 0 a.tmps.toList⟩ 29), (Ev.F.get ⟨89, slE v1 v2 v3 v4 v6 b ++ Ev.argsW 0 a.tmps.toList⟩ 30)]) (L' := fun ns => [⟨ns 0, .cells #[.int .i64 0, .int .i64 0, .int .i64 0, .int .i64 0, .int .i64 0, .int .i64 0] 34 (0, 0), true⟩]) (fun ns ls => by kernel_rfl) (fun ns ls => by kernel_rfl) ?_
  · intro ns a' W' hK hR
    have hnew := hR.blk _ (List.mem_singleton_self _)
    have hge : w.heap.size ≤ ns 0 := by
      rcases Nat.lt_or_ge (ns 0) w.heap.size with h | h
      · exact (hnew.2 rfl h trivial).elim
      · exact h
    have hv := slots_known hK rfl
    have hg := hI.k.rel.get
    refine ⟨known_of hK (ks := slE v1 v2 v3 v4 v6 b) (congrArg (fun x => x.take 6) hv), ?_, hI.hb, hI.hl⟩
    have hps : slotsOf a' [7, 8, 9, 10, 11] = _ := congrArg (fun x => (x.drop 6).take 5) hv
    have hvs : slotsOf a' [26, 27, 28, 29, 30] = _ := congrArg (fun x => (x.drop 11).take 5) hv
    rw [hps, hvs]
    have h5 := hI.r.alloc 1 (by omega) hno _ rfl (ns 0) hR.below hge hnew.1
    rw [slots_rel hI.k.rel, slots_rel hI.k.rel] at h5
    exact h5

theorem step_alloc2 {v1 v2 v3 v4 v6 : Value} {b : Nat} {p : I} {W0 w : World} {listed : Array Bool} {a : Act} (hI : InvE v1 v2 v3 v4 v6 b p W0 listed a w) (hno : listed.getD 12 false = false) {Q : Exit → Act → World → Prop} : wpOp Try.prog ops11 Q 7 (InvE v1 v2 v3 v4 v6 b p W0 (listed.setIfInBounds 7 true)) a w := by
  refine op_run (some []) hI.k (Ew.rep_start w) (fn := 5) ksE (m' := 89) (vs := fun ns => [v1, v2, v3, v4, .pointer (some ⟨b, 0, none⟩), v6, (Ev.F.get ⟨89, slE v1 v2 v3 v4 v6 b ++ Ev.argsW 0 a.tmps.toList⟩ 7), (Ev.F.get ⟨89, slE v1 v2 v3 v4 v6 b ++ Ev.argsW 0 a.tmps.toList⟩ 8), .pointer (some ⟨ns 0, 0, none⟩), (Ev.F.get ⟨89, slE v1 v2 v3 v4 v6 b ++ Ev.argsW 0 a.tmps.toList⟩ 10), (Ev.F.get ⟨89, slE v1 v2 v3 v4 v6 b ++ Ev.argsW 0 a.tmps.toList⟩ 11), (Ev.F.get ⟨89, slE v1 v2 v3 v4 v6 b ++ Ev.argsW 0 a.tmps.toList⟩ 26), (Ev.F.get ⟨89, slE v1 v2 v3 v4 v6 b ++ Ev.argsW 0 a.tmps.toList⟩ 27), (Ev.F.get ⟨89, slE v1 v2 v3 v4 v6 b ++ Ev.argsW 0 a.tmps.toList⟩ 28), (Ev.F.get ⟨89, slE v1 v2 v3 v4 v6 b ++ Ev.argsW 0 a.tmps.toList⟩ 29), (Ev.F.get ⟨89, slE v1 v2 v3 v4 v6 b ++ Ev.argsW 0 a.tmps.toList⟩ 30)]) (L' := fun ns => [⟨ns 0, .cells #[.int .i64 0, .int .i64 0, .int .i64 0, .int .i64 0, .int .i64 0, .int .i64 0] 34 (0, 0), true⟩]) (fun ns ls => by kernel_rfl) (fun ns ls => by kernel_rfl) ?_
  · intro ns a' W' hK hR
    have hnew := hR.blk _ (List.mem_singleton_self _)
    have hge : w.heap.size ≤ ns 0 := by
      rcases Nat.lt_or_ge (ns 0) w.heap.size with h | h
      · exact (hnew.2 rfl h trivial).elim
      · exact h
    have hv := slots_known hK rfl
    have hg := hI.k.rel.get
    refine ⟨known_of hK (ks := slE v1 v2 v3 v4 v6 b) (congrArg (fun x => x.take 6) hv), ?_, hI.hb, hI.hl⟩
    have hps : slotsOf a' [7, 8, 9, 10, 11] = _ := congrArg (fun x => (x.drop 6).take 5) hv
    have hvs : slotsOf a' [26, 27, 28, 29, 30] = _ := congrArg (fun x => (x.drop 11).take 5) hv
    rw [hps, hvs]
    have h5 := hI.r.alloc 2 (by omega) hno _ rfl (ns 0) hR.below hge hnew.1
    rw [slots_rel hI.k.rel, slots_rel hI.k.rel] at h5
    exact h5

theorem step_alloc3 {v1 v2 v3 v4 v6 : Value} {b : Nat} {p : I} {W0 w : World} {listed : Array Bool} {a : Act} (hI : InvE v1 v2 v3 v4 v6 b p W0 listed a w) (hno : listed.getD 13 false = false) {Q : Exit → Act → World → Prop} : wpOp Try.prog ops11 Q 8 (InvE v1 v2 v3 v4 v6 b p W0 (listed.setIfInBounds 8 true)) a w := by
  refine op_run (some []) hI.k (Ew.rep_start w) (fn := 5) ksE (m' := 89) (vs := fun ns => [v1, v2, v3, v4, .pointer (some ⟨b, 0, none⟩), v6, (Ev.F.get ⟨89, slE v1 v2 v3 v4 v6 b ++ Ev.argsW 0 a.tmps.toList⟩ 7), (Ev.F.get ⟨89, slE v1 v2 v3 v4 v6 b ++ Ev.argsW 0 a.tmps.toList⟩ 8), (Ev.F.get ⟨89, slE v1 v2 v3 v4 v6 b ++ Ev.argsW 0 a.tmps.toList⟩ 9), .pointer (some ⟨ns 0, 0, none⟩), (Ev.F.get ⟨89, slE v1 v2 v3 v4 v6 b ++ Ev.argsW 0 a.tmps.toList⟩ 11), (Ev.F.get ⟨89, slE v1 v2 v3 v4 v6 b ++ Ev.argsW 0 a.tmps.toList⟩ 26), (Ev.F.get ⟨89, slE v1 v2 v3 v4 v6 b ++ Ev.argsW 0 a.tmps.toList⟩ 27), (Ev.F.get ⟨89, slE v1 v2 v3 v4 v6 b ++ Ev.argsW 0 a.tmps.toList⟩ 28), (Ev.F.get ⟨89, slE v1 v2 v3 v4 v6 b ++ Ev.argsW 0 a.tmps.toList⟩ 29), (Ev.F.get ⟨89, slE v1 v2 v3 v4 v6 b ++ Ev.argsW 0 a.tmps.toList⟩ 30)]) (L' := fun ns => [⟨ns 0, .cells #[.int .i64 0, .int .i64 0, .int .i64 0, .int .i64 0, .int .i64 0, .int .i64 0] 34 (0, 0), true⟩]) (fun ns ls => by kernel_rfl) (fun ns ls => by kernel_rfl) ?_
  · intro ns a' W' hK hR
    have hnew := hR.blk _ (List.mem_singleton_self _)
    have hge : w.heap.size ≤ ns 0 := by
      rcases Nat.lt_or_ge (ns 0) w.heap.size with h | h
      · exact (hnew.2 rfl h trivial).elim
      · exact h
    have hv := slots_known hK rfl
    have hg := hI.k.rel.get
    refine ⟨known_of hK (ks := slE v1 v2 v3 v4 v6 b) (congrArg (fun x => x.take 6) hv), ?_, hI.hb, hI.hl⟩
    have hps : slotsOf a' [7, 8, 9, 10, 11] = _ := congrArg (fun x => (x.drop 6).take 5) hv
    have hvs : slotsOf a' [26, 27, 28, 29, 30] = _ := congrArg (fun x => (x.drop 11).take 5) hv
    rw [hps, hvs]
    have h5 := hI.r.alloc 3 (by omega) hno _ rfl (ns 0) hR.below hge hnew.1
    rw [slots_rel hI.k.rel, slots_rel hI.k.rel] at h5
    exact h5

theorem step_alloc4 {v1 v2 v3 v4 v6 : Value} {b : Nat} {p : I} {W0 w : World} {listed : Array Bool} {a : Act} (hI : InvE v1 v2 v3 v4 v6 b p W0 listed a w) (hno : listed.getD 14 false = false) {Q : Exit → Act → World → Prop} : wpOp Try.prog ops11 Q 9 (InvE v1 v2 v3 v4 v6 b p W0 (listed.setIfInBounds 9 true)) a w := by
  refine op_run (some []) hI.k (Ew.rep_start w) (fn := 5) ksE (m' := 89) (vs := fun ns => [v1, v2, v3, v4, .pointer (some ⟨b, 0, none⟩), v6, (Ev.F.get ⟨89, slE v1 v2 v3 v4 v6 b ++ Ev.argsW 0 a.tmps.toList⟩ 7), (Ev.F.get ⟨89, slE v1 v2 v3 v4 v6 b ++ Ev.argsW 0 a.tmps.toList⟩ 8), (Ev.F.get ⟨89, slE v1 v2 v3 v4 v6 b ++ Ev.argsW 0 a.tmps.toList⟩ 9), (Ev.F.get ⟨89, slE v1 v2 v3 v4 v6 b ++ Ev.argsW 0 a.tmps.toList⟩ 10), .pointer (some ⟨ns 0, 0, none⟩), (Ev.F.get ⟨89, slE v1 v2 v3 v4 v6 b ++ Ev.argsW 0 a.tmps.toList⟩ 26), (Ev.F.get ⟨89, slE v1 v2 v3 v4 v6 b ++ Ev.argsW 0 a.tmps.toList⟩ 27), (Ev.F.get ⟨89, slE v1 v2 v3 v4 v6 b ++ Ev.argsW 0 a.tmps.toList⟩ 28), (Ev.F.get ⟨89, slE v1 v2 v3 v4 v6 b ++ Ev.argsW 0 a.tmps.toList⟩ 29), (Ev.F.get ⟨89, slE v1 v2 v3 v4 v6 b ++ Ev.argsW 0 a.tmps.toList⟩ 30)]) (L' := fun ns => [⟨ns 0, .cells #[.int .i64 0, .int .i64 0, .int .i64 0, .int .i64 0, .int .i64 0, .int .i64 0] 34 (0, 0), true⟩]) (fun ns ls => by kernel_rfl) (fun ns ls => by kernel_rfl) ?_
  · intro ns a' W' hK hR
    have hnew := hR.blk _ (List.mem_singleton_self _)
    have hge : w.heap.size ≤ ns 0 := by
      rcases Nat.lt_or_ge (ns 0) w.heap.size with h | h
      · exact (hnew.2 rfl h trivial).elim
      · exact h
    have hv := slots_known hK rfl
    have hg := hI.k.rel.get
    refine ⟨known_of hK (ks := slE v1 v2 v3 v4 v6 b) (congrArg (fun x => x.take 6) hv), ?_, hI.hb, hI.hl⟩
    have hps : slotsOf a' [7, 8, 9, 10, 11] = _ := congrArg (fun x => (x.drop 6).take 5) hv
    have hvs : slotsOf a' [26, 27, 28, 29, 30] = _ := congrArg (fun x => (x.drop 11).take 5) hv
    rw [hps, hvs]
    have h5 := hI.r.alloc 4 (by omega) hno _ rfl (ns 0) hR.below hge hnew.1
    rw [slots_rel hI.k.rel, slots_rel hI.k.rel] at h5
    exact h5

theorem step_store0 {v1 v2 v3 v4 v6 : Value} {b : Nat} {p : I} {W0 w : World} {listed : Array Bool} {a : Act} (hI : InvE v1 v2 v3 v4 v6 b p W0 listed a w) (h1 : listed.getD 0 false = true) (h2 : listed.getD 5 false = true) {Q : Exit → Act → World → Prop} : wpOp Try.prog ops11 Q 10 (InvE v1 v2 v3 v4 v6 b p W0 (listed.setIfInBounds 10 true)) a w := by
  obtain ⟨g, cs, e1, e2, e3, e4, -⟩ := hI.r.allocs 0 (by omega) h2
  have e5 := hI.r.loads 0 (by omega) h1
  obtain ⟨l⟩ := cs
  match l, e4 with
  | [c0, c1, c2, c3, c4, c5], _ =>
  have hk2 : Ev.Known 89 ([(7, .pointer (some ⟨g, 0, none⟩)), (26, .agg p.cells)] ++ slE v1 v2 v3 v4 v6 b) a := ⟨hI.k.defers, hI.k.size, fun q hq => by
    rcases List.mem_append.1 hq with hq | hq
    · simp only [List.mem_cons, List.not_mem_nil, or_false] at hq
      rcases hq with rfl | rfl
      · simpa [slotsOf] using e1
      · simpa [slotsOf] using e5
    · exact hI.k.get q hq⟩
  have hr : Ew.Rep w (fun k => k ≠ g) (Ew.E0 [⟨g, .cells #[c0, c1, c2, c3, c4, c5] 34 (0, 0), true⟩] none) w := ⟨rfl, rfl, rfl, Nat.le_refl _, fun _ _ _ => rfl, fun q hq => by
    rcases List.mem_singleton.1 hq with rfl
    exact ⟨e3, fun _ _ h => h rfl⟩, by simp [Ew.E0]⟩
  refine op_run (some [0, 0, 0, 0, 0, 0, 0, 0, 0, 0, 0, 0]) hk2 hr (fn := 5) ksE (m' := 89) (vs := fun _ => [v1, v2, v3, v4, .pointer (some ⟨b, 0, none⟩), v6, (Ev.F.get ⟨89, ([(7, .pointer (some ⟨g, 0, none⟩)), (26, .agg p.cells)] ++ slE v1 v2 v3 v4 v6 b) ++ Ev.argsW 0 a.tmps.toList⟩ 7), (Ev.F.get ⟨89, ([(7, .pointer (some ⟨g, 0, none⟩)), (26, .agg p.cells)] ++ slE v1 v2 v3 v4 v6 b) ++ Ev.argsW 0 a.tmps.toList⟩ 8), (Ev.F.get ⟨89, ([(7, .pointer (some ⟨g, 0, none⟩)), (26, .agg p.cells)] ++ slE v1 v2 v3 v4 v6 b) ++ Ev.argsW 0 a.tmps.toList⟩ 9), (Ev.F.get ⟨89, ([(7, .pointer (some ⟨g, 0, none⟩)), (26, .agg p.cells)] ++ slE v1 v2 v3 v4 v6 b) ++ Ev.argsW 0 a.tmps.toList⟩ 10), (Ev.F.get ⟨89, ([(7, .pointer (some ⟨g, 0, none⟩)), (26, .agg p.cells)] ++ slE v1 v2 v3 v4 v6 b) ++ Ev.argsW 0 a.tmps.toList⟩ 11), (Ev.F.get ⟨89, ([(7, .pointer (some ⟨g, 0, none⟩)), (26, .agg p.cells)] ++ slE v1 v2 v3 v4 v6 b) ++ Ev.argsW 0 a.tmps.toList⟩ 26), (Ev.F.get ⟨89, ([(7, .pointer (some ⟨g, 0, none⟩)), (26, .agg p.cells)] ++ slE v1 v2 v3 v4 v6 b) ++ Ev.argsW 0 a.tmps.toList⟩ 27), (Ev.F.get ⟨89, ([(7, .pointer (some ⟨g, 0, none⟩)), (26, .agg p.cells)] ++ slE v1 v2 v3 v4 v6 b) ++ Ev.argsW 0 a.tmps.toList⟩ 28), (Ev.F.get ⟨89, ([(7, .pointer (some ⟨g, 0, none⟩)), (26, .agg p.cells)] ++ slE v1 v2 v3 v4 v6 b) ++ Ev.argsW 0 a.tmps.toList⟩ 29), (Ev.F.get ⟨89, ([(7, .pointer (some ⟨g, 0, none⟩)), (26, .agg p.cells)] ++ slE v1 v2 v3 v4 v6 b) ++ Ev.argsW 0 a.tmps.toList⟩ 30)]) (L' := fun _ => [⟨g, .cells p.cells 34 (0, 0), true⟩]) (fun ns ls => by kernel_rfl) (fun ns ls => by kernel_rfl) ?_
  · intro ns a' W' hK hR
    have hnew := hR.blk _ (List.mem_singleton_self _)
    have h5 := hI.r.store 0 (by omega) g e1 h2 W' hR.os hR.tape hR.output hR.size (fun k h3 h4 => hR.old k h3 h4) hnew.1 rfl
    rw [slots_rel hk2.rel, slots_rel hk2.rel] at h5
    have hv := slots_known hK rfl
    refine ⟨known_of hK (ks := slE v1 v2 v3 v4 v6 b) (congrArg (fun x => x.take 6) hv), ?_, hI.hb, hI.hl⟩
    have hps : slotsOf a' [7, 8, 9, 10, 11] = _ := congrArg (fun x => (x.drop 6).take 5) hv
    have hvs : slotsOf a' [26, 27, 28, 29, 30] = _ := congrArg (fun x => (x.drop 11).take 5) hv
    rw [hps, hvs]
    exact h5

theorem step_store1 {v1 v2 v3 v4 v6 : Value} {b : Nat} {p : I} {W0 w : World} {listed : Array Bool} {a : Act} (hI : InvE v1 v2 v3 v4 v6 b p W0 listed a w) (h1 : listed.getD 1 false = true) (h2 : listed.getD 6 false = true) {Q : Exit → Act → World → Prop} : wpOp Try.prog ops11 Q 11 (InvE v1 v2 v3 v4 v6 b p W0 (listed.setIfInBounds 11 true)) a w := by
  obtain ⟨g, cs, e1, e2, e3, e4, -⟩ := hI.r.allocs 1 (by omega) h2
  have e5 := hI.r.loads 1 (by omega) h1
  obtain ⟨l⟩ := cs
  match l, e4 with
  | [c0, c1, c2, c3, c4, c5], _ =>
  have hk2 : Ev.Known 89 ([(8, .pointer (some ⟨g, 0, none⟩)), (27, .agg p.cells)] ++ slE v1 v2 v3 v4 v6 b) a := ⟨hI.k.defers, hI.k.size, fun q hq => by
    rcases List.mem_append.1 hq with hq | hq
    · simp only [List.mem_cons, List.not_mem_nil, or_false] at hq
      rcases hq with rfl | rfl
      · simpa [slotsOf] using e1
      · simpa [slotsOf] using e5
    · exact hI.k.get q hq⟩
  have hr : Ew.Rep w (fun k => k ≠ g) (Ew.E0 [⟨g, .cells #[c0, c1, c2, c3, c4, c5] 34 (0, 0), true⟩] none) w := ⟨rfl, rfl, rfl, Nat.le_refl _, fun _ _ _ => rfl, fun q hq => by
    rcases List.mem_singleton.1 hq with rfl
    exact ⟨e3, fun _ _ h => h rfl⟩, by simp [Ew.E0]⟩
  refine op_run (some [0, 0, 0, 0, 0, 0, 0, 0, 0, 0, 0, 0]) hk2 hr (fn := 5) ksE (m' := 89) (vs := fun _ => [v1, v2, v3, v4, .pointer (some ⟨b, 0, none⟩), v6, (Ev.F.get ⟨89, ([(8, .pointer (some ⟨g, 0, none⟩)), (27, .agg p.cells)] ++ slE v1 v2 v3 v4 v6 b) ++ Ev.argsW 0 a.tmps.toList⟩ 7), (Ev.F.get ⟨89, ([(8, .pointer (some ⟨g, 0, none⟩)), (27, .agg p.cells)] ++ slE v1 v2 v3 v4 v6 b) ++ Ev.argsW 0 a.tmps.toList⟩ 8), (Ev.F.get ⟨89, ([(8, .pointer (some ⟨g, 0, none⟩)), (27, .agg p.cells)] ++ slE v1 v2 v3 v4 v6 b) ++ Ev.argsW 0 a.tmps.toList⟩ 9), (Ev.F.get ⟨89, ([(8, .pointer (some ⟨g, 0, none⟩)), (27, .agg p.cells)] ++ slE v1 v2 v3 v4 v6 b) ++ Ev.argsW 0 a.tmps.toList⟩ 10), (Ev.F.get ⟨89, ([(8, .pointer (some ⟨g, 0, none⟩)), (27, .agg p.cells)] ++ slE v1 v2 v3 v4 v6 b) ++ Ev.argsW 0 a.tmps.toList⟩ 11), (Ev.F.get ⟨89, ([(8, .pointer (some ⟨g, 0, none⟩)), (27, .agg p.cells)] ++ slE v1 v2 v3 v4 v6 b) ++ Ev.argsW 0 a.tmps.toList⟩ 26), (Ev.F.get ⟨89, ([(8, .pointer (some ⟨g, 0, none⟩)), (27, .agg p.cells)] ++ slE v1 v2 v3 v4 v6 b) ++ Ev.argsW 0 a.tmps.toList⟩ 27), (Ev.F.get ⟨89, ([(8, .pointer (some ⟨g, 0, none⟩)), (27, .agg p.cells)] ++ slE v1 v2 v3 v4 v6 b) ++ Ev.argsW 0 a.tmps.toList⟩ 28), (Ev.F.get ⟨89, ([(8, .pointer (some ⟨g, 0, none⟩)), (27, .agg p.cells)] ++ slE v1 v2 v3 v4 v6 b) ++ Ev.argsW 0 a.tmps.toList⟩ 29), (Ev.F.get ⟨89, ([(8, .pointer (some ⟨g, 0, none⟩)), (27, .agg p.cells)] ++ slE v1 v2 v3 v4 v6 b) ++ Ev.argsW 0 a.tmps.toList⟩ 30)]) (L' := fun _ => [⟨g, .cells p.cells 34 (0, 0), true⟩]) (fun ns ls => by kernel_rfl) (fun ns ls => by kernel_rfl) ?_
  · intro ns a' W' hK hR
    have hnew := hR.blk _ (List.mem_singleton_self _)
    have h5 := hI.r.store 1 (by omega) g e1 h2 W' hR.os hR.tape hR.output hR.size (fun k h3 h4 => hR.old k h3 h4) hnew.1 rfl
    rw [slots_rel hk2.rel, slots_rel hk2.rel] at h5
    have hv := slots_known hK rfl
    refine ⟨known_of hK (ks := slE v1 v2 v3 v4 v6 b) (congrArg (fun x => x.take 6) hv), ?_, hI.hb, hI.hl⟩
    have hps : slotsOf a' [7, 8, 9, 10, 11] = _ := congrArg (fun x => (x.drop 6).take 5) hv
    have hvs : slotsOf a' [26, 27, 28, 29, 30] = _ := congrArg (fun x => (x.drop 11).take 5) hv
    rw [hps, hvs]
    exact h5

theorem step_store2 {v1 v2 v3 v4 v6 : Value} {b : Nat} {p : I} {W0 w : World} {listed : Array Bool} {a : Act} (hI : InvE v1 v2 v3 v4 v6 b p W0 listed a w) (h1 : listed.getD 2 false = true) (h2 : listed.getD 7 false = true) {Q : Exit → Act → World → Prop} : wpOp Try.prog ops11 Q 12 (InvE v1 v2 v3 v4 v6 b p W0 (listed.setIfInBounds 12 true)) a w := by
  obtain ⟨g, cs, e1, e2, e3, e4, -⟩ := hI.r.allocs 2 (by omega) h2
  have e5 := hI.r.loads 2 (by omega) h1
  obtain ⟨l⟩ := cs
  match l, e4 with
  | [c0, c1, c2, c3, c4, c5], _ =>
  have hk2 : Ev.Known 89 ([(9, .pointer (some ⟨g, 0, none⟩)), (28, .agg p.cells)] ++ slE v1 v2 v3 v4 v6 b) a := ⟨hI.k.defers, hI.k.size, fun q hq => by
    rcases List.mem_append.1 hq with hq | hq
    · simp only [List.mem_cons, List.not_mem_nil, or_false] at hq
      rcases hq with rfl | rfl
      · simpa [slotsOf] using e1
      · simpa [slotsOf] using e5
    · exact hI.k.get q hq⟩
  have hr : Ew.Rep w (fun k => k ≠ g) (Ew.E0 [⟨g, .cells #[c0, c1, c2, c3, c4, c5] 34 (0, 0), true⟩] none) w := ⟨rfl, rfl, rfl, Nat.le_refl _, fun _ _ _ => rfl, fun q hq => by
    rcases List.mem_singleton.1 hq with rfl
    exact ⟨e3, fun _ _ h => h rfl⟩, by simp [Ew.E0]⟩
  refine op_run (some [0, 0, 0, 0, 0, 0, 0, 0, 0, 0, 0, 0]) hk2 hr (fn := 5) ksE (m' := 89) (vs := fun _ => [v1, v2, v3, v4, .pointer (some ⟨b, 0, none⟩), v6, (Ev.F.get ⟨89, ([(9, .pointer (some ⟨g, 0, none⟩)), (28, .agg p.cells)] ++ slE v1 v2 v3 v4 v6 b) ++ Ev.argsW 0 a.tmps.toList⟩ 7), (Ev.F.get ⟨89, ([(9, .pointer (some ⟨g, 0, none⟩)), (28, .agg p.cells)] ++ slE v1 v2 v3 v4 v6 b) ++ Ev.argsW 0 a.tmps.toList⟩ 8), (Ev.F.get ⟨89, ([(9, .pointer (some ⟨g, 0, none⟩)), (28, .agg p.cells)] ++ slE v1 v2 v3 v4 v6 b) ++ Ev.argsW 0 a.tmps.toList⟩ 9), (Ev.F.get ⟨89, ([(9, .pointer (some ⟨g, 0, none⟩)), (28, .agg p.cells)] ++ slE v1 v2 v3 v4 v6 b) ++ Ev.argsW 0 a.tmps.toList⟩ 10), (Ev.F.get ⟨89, ([(9, .pointer (some ⟨g, 0, none⟩)), (28, .agg p.cells)] ++ slE v1 v2 v3 v4 v6 b) ++ Ev.argsW 0 a.tmps.toList⟩ 11), (Ev.F.get ⟨89, ([(9, .pointer (some ⟨g, 0, none⟩)), (28, .agg p.cells)] ++ slE v1 v2 v3 v4 v6 b) ++ Ev.argsW 0 a.tmps.toList⟩ 26), (Ev.F.get ⟨89, ([(9, .pointer (some ⟨g, 0, none⟩)), (28, .agg p.cells)] ++ slE v1 v2 v3 v4 v6 b) ++ Ev.argsW 0 a.tmps.toList⟩ 27), (Ev.F.get ⟨89, ([(9, .pointer (some ⟨g, 0, none⟩)), (28, .agg p.cells)] ++ slE v1 v2 v3 v4 v6 b) ++ Ev.argsW 0 a.tmps.toList⟩ 28), (Ev.F.get ⟨89, ([(9, .pointer (some ⟨g, 0, none⟩)), (28, .agg p.cells)] ++ slE v1 v2 v3 v4 v6 b) ++ Ev.argsW 0 a.tmps.toList⟩ 29), (Ev.F.get ⟨89, ([(9, .pointer (some ⟨g, 0, none⟩)), (28, .agg p.cells)] ++ slE v1 v2 v3 v4 v6 b) ++ Ev.argsW 0 a.tmps.toList⟩ 30)]) (L' := fun _ => [⟨g, .cells p.cells 34 (0, 0), true⟩]) (fun ns ls => by kernel_rfl) (fun ns ls => by kernel_rfl) ?_
  · intro ns a' W' hK hR
    have hnew := hR.blk _ (List.mem_singleton_self _)
    have h5 := hI.r.store 2 (by omega) g e1 h2 W' hR.os hR.tape hR.output hR.size (fun k h3 h4 => hR.old k h3 h4) hnew.1 rfl
    rw [slots_rel hk2.rel, slots_rel hk2.rel] at h5
    have hv := slots_known hK rfl
    refine ⟨known_of hK (ks := slE v1 v2 v3 v4 v6 b) (congrArg (fun x => x.take 6) hv), ?_, hI.hb, hI.hl⟩
    have hps : slotsOf a' [7, 8, 9, 10, 11] = _ := congrArg (fun x => (x.drop 6).take 5) hv
    have hvs : slotsOf a' [26, 27, 28, 29, 30] = _ := congrArg (fun x => (x.drop 11).take 5) hv
    rw [hps, hvs]
    exact h5

theorem step_store3 {v1 v2 v3 v4 v6 : Value} {b : Nat} {p : I} {W0 w : World} {listed : Array Bool} {a : Act} (hI : InvE v1 v2 v3 v4 v6 b p W0 listed a w) (h1 : listed.getD 3 false = true) (h2 : listed.getD 8 false = true) {Q : Exit → Act → World → Prop} : wpOp Try.prog ops11 Q 13 (InvE v1 v2 v3 v4 v6 b p W0 (listed.setIfInBounds 13 true)) a w := by
  obtain ⟨g, cs, e1, e2, e3, e4, -⟩ := hI.r.allocs 3 (by omega) h2
  have e5 := hI.r.loads 3 (by omega) h1
  obtain ⟨l⟩ := cs
  match l, e4 with
  | [c0, c1, c2, c3, c4, c5], _ =>
  have hk2 : Ev.Known 89 ([(10, .pointer (some ⟨g, 0, none⟩)), (29, .agg p.cells)] ++ slE v1 v2 v3 v4 v6 b) a := ⟨hI.k.defers, hI.k.size, fun q hq => by
    rcases List.mem_append.1 hq with hq | hq
    · simp only [List.mem_cons, List.not_mem_nil, or_false] at hq
      rcases hq with rfl | rfl
      · simpa [slotsOf] using e1
      · simpa [slotsOf] using e5
    · exact hI.k.get q hq⟩
  have hr : Ew.Rep w (fun k => k ≠ g) (Ew.E0 [⟨g, .cells #[c0, c1, c2, c3, c4, c5] 34 (0, 0), true⟩] none) w := ⟨rfl, rfl, rfl, Nat.le_refl _, fun _ _ _ => rfl, fun q hq => by
    rcases List.mem_singleton.1 hq with rfl
    exact ⟨e3, fun _ _ h => h rfl⟩, by simp [Ew.E0]⟩
  refine op_run (some [0, 0, 0, 0, 0, 0, 0, 0, 0, 0, 0, 0]) hk2 hr (fn := 5) ksE (m' := 89) (vs := fun _ => [v1, v2, v3, v4, .pointer (some ⟨b, 0, none⟩), v6, (Ev.F.get ⟨89, ([(10, .pointer (some ⟨g, 0, none⟩)), (29, .agg p.cells)] ++ slE v1 v2 v3 v4 v6 b) ++ Ev.argsW 0 a.tmps.toList⟩ 7), (Ev.F.get ⟨89, ([(10, .pointer (some ⟨g, 0, none⟩)), (29, .agg p.cells)] ++ slE v1 v2 v3 v4 v6 b) ++ Ev.argsW 0 a.tmps.toList⟩ 8), (Ev.F.get ⟨89, ([(10, .pointer (some ⟨g, 0, none⟩)), (29, .agg p.cells)] ++ slE v1 v2 v3 v4 v6 b) ++ Ev.argsW 0 a.tmps.toList⟩ 9), (Ev.F.get ⟨89, ([(10, .pointer (some ⟨g, 0, none⟩)), (29, .agg p.cells)] ++ slE v1 v2 v3 v4 v6 b) ++ Ev.argsW 0 a.tmps.toList⟩ 10), (Ev.F.get ⟨89, ([(10, .pointer (some ⟨g, 0, none⟩)), (29, .agg p.cells)] ++ slE v1 v2 v3 v4 v6 b) ++ Ev.argsW 0 a.tmps.toList⟩ 11), (Ev.F.get ⟨89, ([(10, .pointer (some ⟨g, 0, none⟩)), (29, .agg p.cells)] ++ slE v1 v2 v3 v4 v6 b) ++ Ev.argsW 0 a.tmps.toList⟩ 26), (Ev.F.get ⟨89, ([(10, .pointer (some ⟨g, 0, none⟩)), (29, .agg p.cells)] ++ slE v1 v2 v3 v4 v6 b) ++ Ev.argsW 0 a.tmps.toList⟩ 27), (Ev.F.get ⟨89, ([(10, .pointer (some ⟨g, 0, none⟩)), (29, .agg p.cells)] ++ slE v1 v2 v3 v4 v6 b) ++ Ev.argsW 0 a.tmps.toList⟩ 28), (Ev.F.get ⟨89, ([(10, .pointer (some ⟨g, 0, none⟩)), (29, .agg p.cells)] ++ slE v1 v2 v3 v4 v6 b) ++ Ev.argsW 0 a.tmps.toList⟩ 29), (Ev.F.get ⟨89, ([(10, .pointer (some ⟨g, 0, none⟩)), (29, .agg p.cells)] ++ slE v1 v2 v3 v4 v6 b) ++ Ev.argsW 0 a.tmps.toList⟩ 30)]) (L' := fun _ => [⟨g, .cells p.cells 34 (0, 0), true⟩]) (fun ns ls => by kernel_rfl) (fun ns ls => by kernel_rfl) ?_
  · intro ns a' W' hK hR
    have hnew := hR.blk _ (List.mem_singleton_self _)
    have h5 := hI.r.store 3 (by omega) g e1 h2 W' hR.os hR.tape hR.output hR.size (fun k h3 h4 => hR.old k h3 h4) hnew.1 rfl
    rw [slots_rel hk2.rel, slots_rel hk2.rel] at h5
    have hv := slots_known hK rfl
    refine ⟨known_of hK (ks := slE v1 v2 v3 v4 v6 b) (congrArg (fun x => x.take 6) hv), ?_, hI.hb, hI.hl⟩
    have hps : slotsOf a' [7, 8, 9, 10, 11] = _ := congrArg (fun x => (x.drop 6).take 5) hv
    have hvs : slotsOf a' [26, 27, 28, 29, 30] = _ := congrArg (fun x => (x.drop 11).take 5) hv
    rw [hps, hvs]
    exact h5

theorem step_store4 {v1 v2 v3 v4 v6 : Value} {b : Nat} {p : I} {W0 w : World} {listed : Array Bool} {a : Act} (hI : InvE v1 v2 v3 v4 v6 b p W0 listed a w) (h1 : listed.getD 4 false = true) (h2 : listed.getD 9 false = true) {Q : Exit → Act → World → Prop} : wpOp Try.prog ops11 Q 14 (InvE v1 v2 v3 v4 v6 b p W0 (listed.setIfInBounds 14 true)) a w := by
  obtain ⟨g, cs, e1, e2, e3, e4, -⟩ := hI.r.allocs 4 (by omega) h2
  have e5 := hI.r.loads 4 (by omega) h1
  obtain ⟨l⟩ := cs
  match l, e4 with
  | [c0, c1, c2, c3, c4, c5], _ =>
  have hk2 : Ev.Known 89 ([(11, .pointer (some ⟨g, 0, none⟩)), (30, .agg p.cells)] ++ slE v1 v2 v3 v4 v6 b) a := ⟨hI.k.defers, hI.k.size, fun q hq => by
    rcases List.mem_append.1 hq with hq | hq
    · simp only [List.mem_cons, List.not_mem_nil, or_false] at hq
      rcases hq with rfl | rfl
      · simpa [slotsOf] using e1
      · simpa [slotsOf] using e5
    · exact hI.k.get q hq⟩
  have hr : Ew.Rep w (fun k => k ≠ g) (Ew.E0 [⟨g, .cells #[c0, c1, c2, c3, c4, c5] 34 (0, 0), true⟩] none) w := ⟨rfl, rfl, rfl, Nat.le_refl _, fun _ _ _ => rfl, fun q hq => by
    rcases List.mem_singleton.1 hq with rfl
    exact ⟨e3, fun _ _ h => h rfl⟩, by simp [Ew.E0]⟩
  refine op_run (some [0, 0, 0, 0, 0, 0, 0, 0, 0, 0, 0, 0]) hk2 hr (fn := 5) ksE (m' := 89) (vs := fun _ => [v1, v2, v3, v4, .pointer (some ⟨b, 0, none⟩), v6, (Ev.F.get ⟨89, ([(11, .pointer (some ⟨g, 0, none⟩)), (30, .agg p.cells)] ++ slE v1 v2 v3 v4 v6 b) ++ Ev.argsW 0 a.tmps.toList⟩ 7), (Ev.F.get ⟨89, ([(11, .pointer (some ⟨g, 0, none⟩)), (30, .agg p.cells)] ++ slE v1 v2 v3 v4 v6 b) ++ Ev.argsW 0 a.tmps.toList⟩ 8), (Ev.F.get ⟨89, ([(11, .pointer (some ⟨g, 0, none⟩)), (30, .agg p.cells)] ++ slE v1 v2 v3 v4 v6 b) ++ Ev.argsW 0 a.tmps.toList⟩ 9), (Ev.F.get ⟨89, ([(11, .pointer (some ⟨g, 0, none⟩)), (30, .agg p.cells)] ++ slE v1 v2 v3 v4 v6 b) ++ Ev.argsW 0 a.tmps.toList⟩ 10), (Ev.F.get ⟨89, ([(11, .pointer (some ⟨g, 0, none⟩)), (30, .agg p.cells)] ++ slE v1 v2 v3 v4 v6 b) ++ Ev.argsW 0 a.tmps.toList⟩ 11), (Ev.F.get ⟨89, ([(11, .pointer (some ⟨g, 0, none⟩)), (30, .agg p.cells)] ++ slE v1 v2 v3 v4 v6 b) ++ Ev.argsW 0 a.tmps.toList⟩ 26), (Ev.F.get ⟨89, ([(11, .pointer (some ⟨g, 0, none⟩)), (30, .agg p.cells)] ++ slE v1 v2 v3 v4 v6 b) ++ Ev.argsW 0 a.tmps.toList⟩ 27), (Ev.F.get ⟨89, ([(11, .pointer (some ⟨g, 0, none⟩)), (30, .agg p.cells)] ++ slE v1 v2 v3 v4 v6 b) ++ Ev.argsW 0 a.tmps.toList⟩ 28), (Ev.F.get ⟨89, ([(11, .pointer (some ⟨g, 0, none⟩)), (30, .agg p.cells)] ++ slE v1 v2 v3 v4 v6 b) ++ Ev.argsW 0 a.tmps.toList⟩ 29), (Ev.F.get ⟨89, ([(11, .pointer (some ⟨g, 0, none⟩)), (30, .agg p.cells)] ++ slE v1 v2 v3 v4 v6 b) ++ Ev.argsW 0 a.tmps.toList⟩ 30)]) (L' := fun _ => [⟨g, .cells p.cells 34 (0, 0), true⟩]) (fun ns ls => by kernel_rfl) (fun ns ls => by kernel_rfl) ?_
  · intro ns a' W' hK hR
    have hnew := hR.blk _ (List.mem_singleton_self _)
    have h5 := hI.r.store 4 (by omega) g e1 h2 W' hR.os hR.tape hR.output hR.size (fun k h3 h4 => hR.old k h3 h4) hnew.1 rfl
    rw [slots_rel hk2.rel, slots_rel hk2.rel] at h5
    have hv := slots_known hK rfl
    refine ⟨known_of hK (ks := slE v1 v2 v3 v4 v6 b) (congrArg (fun x => x.take 6) hv), ?_, hI.hb, hI.hl⟩
    have hps : slotsOf a' [7, 8, 9, 10, 11] = _ := congrArg (fun x => (x.drop 6).take 5) hv
    have hvs : slotsOf a' [26, 27, 28, 29, 30] = _ := congrArg (fun x => (x.drop 11).take 5) hv
    rw [hps, hvs]
    exact h5

end Go.Proofs.Ytjcebkkmpgafkaa
