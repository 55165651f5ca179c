/-
  AtomCells: the loop, and the call.
-/
import Derived.Test.YtjohknpmhlildaaCellsC
namespace Go.Proofs.Ytjohknpmhlildaa
open Go Go.RowKit
open Ex (Cont num)

def fin (v : Int) (l : List O) : Int := l.foldl stepC v

theorem round_end {b o n c g : Nat} {v : Int} {w0 W : World} {keep : Nat → Prop} {a : Act}
    (hK : Ev.Known 97 (slC b o n c g v n) a) (hR : Ex.Rep w0 keep (Ex.E0 [⟨b, .seg o [], false⟩, cellB g v] none) W) {Q : Exit → Act → World → Prop}
    (hQ : ∀ a' W', Ev.Known 97 [(0, .int .u64 v), (5, .pointer (ptr g))] a' → Ex.Rep w0 keep (Ex.E0 [cellB g v] none) W' → Q (.exit 0) a' W') : bodyC.wp Try.prog Q a W := by
  refine Ex.wp_run (S := Ex.mkCtx [] [] [(fC, 19)] [] [fun _ => .bool false] [] []) (Ex.mk_holds Ex.nil_c Ex.nil_l) mixed 200 fC (some []) hK hR [0, 5] [1] (by decide) (x := .exit 0) (m' := 97)
    (vs := fun ns _ => [.int .u64 v, .pointer (ptr g)]) (L' := fun ns _ => [cellB g v]) (q := fun ns ls => [(true, Value.bool (decide ((n : Int) < (n : Int))) = .bool false)])
    (fun ns ls => by kernel_rfl) (fun ns ls => by kernel_rfl) (fun ns ls => ⟨by rw [decide_eq_false (by omega)], fun a' W' hK' hR' => hQ a' W' hK' hR'⟩)

noncomputable def loopC (b o c g : Nat) (v : Int) (l : List O) : Ex.LoopC :=
  ⟨.loop bodyC, 97, slC b o l.length c g v 0, ⟨[(b, .seg o (opCells l))], [(g, cellO v)], 0, fun _ => True, fun _ => [(g, cellO (fin v l))]⟩, .exit 0, fun _ => [(0, .int .u64 (fin v l)), (5, .pointer (ptr g))]⟩

theorem slot6C {b o n c g i : Nat} {v : Int} {a' : Act} (h : Ev.Known 97 (slC b o n c g v i) a') : (intOf (a'.tmps.getD 6 undef)).toNat = i := by
  have := h.get (6, .int .i64 i) (by simp [slC])
  simp only at this
  rw [this]; rfl

theorem rep_use {b g : Nat} {ct cu : Cont} {W : World} (hb : ct.sat W.heap[b]?) (hg : cu.sat W.heap[g]?) (hne : b ≠ g) : Ex.Rep W (fun k => k ≠ g) (Ex.E0 [⟨b, ct, false⟩, ⟨g, cu, true⟩] none) W := by
  refine ⟨rfl, rfl, rfl, Nat.le_refl _, fun _ _ _ => rfl, fun q hq => ?_, ?_⟩
  · simp only [Ex.E0, List.mem_cons, List.not_mem_nil, or_false] at hq
    rcases hq with rfl | rfl
    · exact ⟨hb, fun h => by cases h⟩
    · exact ⟨hg, fun _ _ h => h rfl⟩
  · show ([⟨b, ct, false⟩, ⟨g, cu, true⟩] : List Ex.Blk).Pairwise Ex.Far
    refine List.pairwise_cons.2 ⟨fun q hq => ?_, List.pairwise_singleton _ _⟩
    rcases List.mem_singleton.1 hq with rfl
    exact fun _ => hne

theorem loopC_met (b o c g : Nat) (v : Int) (l : List O) (hn : l.length ≤ maxLen) (hv : goodU v) (hl : ∀ p ∈ l, goodU p.v) : Ex.MeetsL Try.prog (loopC b o c g v l) := by
  intro a0 W hK0 hpre
  show (Code.loop bodyC).wp _ _ _ _
  have hb := hpre.rd _ (List.mem_singleton_self _)
  have hg := hpre.use _ (List.mem_singleton_self _)
  have hne : b ≠ g := hpre.apart _ (List.mem_singleton_self _) _ (List.mem_singleton_self _)
  refine wp_loop (fun a wr => ∃ k : Nat, k ≤ l.length ∧ goodU (fin v (l.take k)) ∧ Ev.Known 97 (slC b o l.length c g (fin v (l.take k)) k) a ∧ Ex.Rep W (fun k => k ≠ g) (Ex.E0 [segO b o l, cellB g (fin v (l.take k))] none) wr)
    (fun a _ => l.length - (intOf (a.tmps.getD 6 undef)).toNat) ?_ ?_
  · exact ⟨0, by omega, hv, hK0, rep_use hb hg hne⟩
  · rintro a wr ⟨k, hk, hvk, hK, hR⟩
    by_cases hlt : k < l.length
    · have he : l[k]? = some l[k] := List.getElem?_eq_getElem hlt
      have hs : stepC (fin v (l.take k)) l[k] = fin v (l.take (k + 1)) := by
        unfold fin
        rw [List.take_succ_eq_append_getElem hlt, List.foldl_append]
        rfl
      refine round_any hn he hvk hK hR fun a' W' hK' hR' => ?_
      have hg' := step_good hvk (hl _ (List.getElem_mem hlt))
      rw [hs] at hK' hR' hg'
      refine ⟨⟨k + 1, by omega, hg', hK', hR'⟩, ?_⟩
      rw [slot6C hK', slot6C hK]
      omega
    · have : k = l.length := by omega
      subst this
      rw [List.take_length] at hK hR
      have hR2 : Ex.Rep W (fun k => k ≠ g) (Ex.E0 [⟨b, .seg o [], false⟩, cellB g (fin v l)] none) wr :=
        ⟨hR.os, hR.tape, hR.output, hR.size, hR.old, fun q hq => by
          simp only [Ex.E0, List.mem_cons, List.not_mem_nil, or_false] at hq
          rcases hq with rfl | rfl
          · obtain ⟨⟨cc, t, f, h1, -⟩, -⟩ := hR.blk (segO b o l) (by simp [Ex.E0])
            exact ⟨⟨cc, t, f, h1, fun j u hu => by simp at hu⟩, fun h => by cases h⟩
          · exact hR.blk _ (by simp [Ex.E0]), by
          refine List.pairwise_cons.2 ⟨fun q hq => ?_, List.pairwise_singleton _ _⟩
          rcases List.mem_singleton.1 hq with rfl
          exact fun _ => hne⟩
      refine round_end hK hR2 fun a' W' hK' hR' => ?_
      simp only [Exit.then]
      refine ⟨rfl, [], hK', rfl, trivial, hR'.os, hR'.tape, hR'.output, hR'.size, fun k hk hno => hR'.old k hk (fun h => hno _ (List.mem_singleton_self _) h.symm), fun p hp => ?_, by simp [loopC]⟩
      rcases List.mem_singleton.1 hp with rfl
      exact ⟨.inr ⟨_, List.mem_singleton_self _, rfl⟩, (hR'.blk _ (List.mem_singleton_self _)).1⟩

noncomputable def ctxA (b o c : Nat) (v : Int) (l : List O) : Ex.Ctx :=
  Ex.mkCtx [fAwake] [fun _ => Ex.plainC fAwake #[] (.bool true)] [(fC, 96)] [] [fun _ => .bool true] [fC] [fun h => loopC b o c (num h 0) v l]
theorem ctxA_holds (b o c : Nat) (v : Int) (l : List O) (hn : l.length ≤ maxLen) (hv : goodU v) (hl : ∀ p ∈ l, goodU p.v) : (ctxA b o c v l).holds Try.prog :=
  Ex.mk_holds (Ex.cons_c (fun _ => Ex.meets_plain awake_any) Ex.nil_c) (Ex.cons_l (fun _ => loopC_met _ _ _ _ _ _ hn hv hl) Ex.nil_l)

theorem cells_call (b o c : Nat) (v : Int) (l : List O) (hn : l.length ≤ maxLen) (hv : goodU v) (hl : ∀ p ∈ l, goodU p.v) {W : World} (hb : (Cont.seg o (opCells l)).sat W.heap[b]?) :
    Calls Try.prog fC #[.int .u64 v, .slice (some ⟨b, o, none⟩) l.length c] W fun e w' => e = .returned (.bool true) ∧ Below W.heap.size W w' :=
  Ex.calls_plain (ctxA_holds b o c v l hn hv hl) mixed 200 (Ex.traceC Try.prog (ctxA 1 0 7 9 []) 200 fC #[.int .u64 9, .slice (some ⟨1, 0, none⟩) 0 7] [segO 1 0 []]) (.bool true)
    (fun ns ls => [(true, Value.bool (fin v l == fin v l) = .bool true)]) (fun ns ls => by kernel_rfl) (fun ns ls => by kernel_rfl) (fun ns ls => ⟨by rw [beq_self_eq_true], trivial⟩) (L0 := [segO b o l])
    ⟨rfl, rfl, rfl, Nat.le_refl _, fun _ _ _ => rfl, fun q hq => by
      rcases List.mem_singleton.1 hq with rfl
      exact ⟨hb, fun h => by cases h⟩, List.pairwise_singleton _ _⟩

noncomputable def ctxN : Ex.Ctx := Ex.mkCtx [fAwake] [fun _ => Ex.plainC fAwake #[] (.bool true)] [(fC, 96)] [] [fun _ => .bool true] [] []
theorem cells_none (v : Int) (A : Option Addr) (c : Nat) (W : World) :
    Calls Try.prog fC #[.int .u64 v, .slice A 0 c] W fun e w' => e = .returned (.bool true) ∧ Below W.heap.size W w' :=
  Ex.calls_value (S := ctxN) (Ex.mk_holds (Ex.cons_c (fun _ => Ex.meets_plain awake_any) Ex.nil_c) Ex.nil_l) mixed 200 (.bool true) (fun _ _ => [(true, Value.bool (v == v) = .bool true)])
    (fun ns ls => by kernel_rfl) (fun ns ls => by kernel_rfl) (fun _ _ => ⟨by rw [beq_self_eq_true], trivial⟩) W

end Go.Proofs.Ytjohknpmhlildaa
