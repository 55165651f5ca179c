/-
  Loops, by their states; all slots are letters (so that loops within may be gone through).
-/
import Derived.Test.YtbgmkefehfjicaaSyG
namespace Go.Proofs.Ytbgmkefehfjicaa.Sy
open Go Go.RowKit

open Ev (calm)
variable {P : Program}

theorem range_map (xs : List Value) (n : Nat) (h : xs.length = n) : (List.range n).map (fun j => xs.getD j undef) = xs := by
  apply List.ext_getElem?
  intro i
  rw [List.getElem?_map]
  by_cases hi : i < n
  · rw [List.getElem?_range hi, List.getElem?_eq_getElem (by omega)]
    simp [List.getD_eq_getElem?_getD, List.getElem?_eq_getElem (show i < xs.length by omega)]
  · rw [List.getElem?_eq_none (by simpa using Nat.le_of_not_lt hi), List.getElem?_eq_none (by omega)]
    rfl

theorem loop_ofR {σ : Type} {S : σ → Ctx} (hS : ∀ s, (S s).holds P) (hP : P.follows .mixedOrders = true) {n : Nat} {fn : FuncId} {body : Code} {c : LoopC} (hc : c.c = .loop body) (ks : List Nat) (slots : σ → List (Nat × Value)) (mem : σ → List Blk) (ok : σ → Prop) (μ : σ → Nat)
    (s0 : σ) (h0 : c.ok → ok s0) (hs0 : ∀ p ∈ slots s0, p ∈ c.sl) (pk0 : List Nat) (hpk0 : pk0.Nodup) (hm0 : pickL (blks c.mem) pk0 = mem s0)
    {o : σ → O} {R : σ → (Nat → Value) → (Nat → Let) → Res (Exit × Nat × List Value × List Blk)} (h : ∀ s f, ok s → Ran (pieceT P (S s) n fn body c.n (slots s) ((List.range c.n).map f) (mem s) ks) (o s) (R s f))
    (hQ : c.ok → ∀ s f, ok s → ∀ ns, (R s f ns).holds (leafL c ks slots mem ok μ s)) : MeetsL P c := by
  intro hok a W hk hpre
  rw [hc]
  have key : ∀ m s a W', ok s → μ s < m → Known c.n (slots s) a → Rep W (keepOf c.mem) (mem s) W' →
      Code.rounds P body (fun x a' W' => ∃ o ∈ c.outs, x = o.2.1 ∧ calm x = true ∧ ∃ ns, Known c.n (o.2.2 ns) a' ∧ c.mem.post o.1 W W' ns) m a W' := by
    intro m
    induction m with
    | zero => intro s a W' _ hlt; omega
    | succ m ih =>
      intro s a W' hs hlt hK hR
      rw [rounds_succ]
      have hran := h s (fun j => a.tmps.toList.getD j undef) hs
      rw [range_map a.tmps.toList c.n (by rw [Array.length_toList]; exact hK.size)] at hran
      refine wp_of (hS s) hP hran hK hR fun ns => Res.holds_mono (fun y hy a' W2 hx hK' hR' => ?_) _ (hQ hok s (fun j => a.tmps.toList.getD j undef) hs ns)
      obtain ⟨hn, hy⟩ := hy
      rcases hy with ⟨hx1, s', hs', hμ, hz, pk, hpk, hm⟩ | ⟨hx1, o, ho, he, ns', g1, ⟨q, g2⟩, ⟨pk, g3, g4⟩, g5⟩
      · rw [hx1]
        rw [hn, hz] at hK'
        have hR2 := hR'.pick hpk
        rw [hm] at hR2
        exact ih s' a' W2 hs' (by omega) hK' hR2
      · have hfin : ∃ o ∈ c.outs, y.1 = o.2.1 ∧ calm y.1 = true ∧ ∃ ns, Known c.n (o.2.2 ns) a' ∧ c.mem.post o.1 W W2 ns := by
          refine ⟨o, ho, he, hx, ns', ?_, post_of_rep hR' g1 g5 pk g3 g4⟩
          rw [hn] at hK'
          refine Known.sub hK' fun p hp => ?_
          rw [g2] at hp
          obtain ⟨i, -, hi⟩ := List.mem_filterMap.1 hp
          exact List.mem_of_getElem? hi
        cases hy1 : y.1 with
        | normal => exact absurd hy1 hx1
        | _ => rw [hy1] at hfin; exact hfin
  refine wp_loop_rounds (μ s0 + 1) (key _ s0 a W (h0 hok) (by omega) (Known.sub hk hs0) ?_)
  have := (rep_of_pre hpre).pick hpk0
  rw [hm0] at this
  exact this

end Go.Proofs.Ytbgmkefehfjicaa.Sy
