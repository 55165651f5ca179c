/-
  Closed runs that hand back a row.
-/
import Derived.Test.YtbgmkefehfjicaaSyJ
namespace Go.Proofs.Ytbgmkefehfjicaa.Sy
open Go Go.RowKit

/-- The first of what is handed back. -/
noncomputable def headV (v : Value) : Value := match v with
  | .tuple vs => match vs.toList with
    | x :: _ => x
    | [] => v
  | v => v

noncomputable def endRow (e size m : Nat) (xs : List Value) (w : Value → Value) (v : Value) (L : List Blk) : T Unit := match headV v with
  | .slice (some ⟨g, 0, none⟩) _ cap => .same (.val v) (.val (w (.slice (some ⟨g, 0, none⟩) m cap))) (pickT L g fun p _ => match p with
    | ⟨nm, ct, true⟩ => .same (.cont ct) (.cont (.row e size m cap xs)) (.ret ())
    | _ => .fail)
  | _ => .fail

/-- A contract of a call that reads some blocks and hands back a new row. -/
def rowC' (f : FuncId) (args : Array Value) (rd : List (Nat × Cont)) (e size m : Nat) (xs : List Value) (w : Value → Value) : CallC := ⟨f, args, True, ⟨rd, [], 2, []⟩, [rowO e size m xs w]⟩

section
variable (P : Program) (S : Ctx) (dr : How)
noncomputable def rowJ (n : Nat) (f : FuncId) (args : Array Value) (L : List Blk) (e size m : Nat) (xs : List Value) (w : Value → Value) : T Unit := (fnB P S f).run (callJ P S dr n) n args L (endRow e size m xs w)
end

section
variable {P : Program} {S : Ctx} {dr : How}

theorem meets_rowJ (hS : S.holds P) (hd : dr.holds P) (hP : P.follows .mixedOrders = true) {n : Nat} {f : FuncId} {args : Array Value} {rd : List (Nat × Cont)} {e size m : Nat} {xs : List Value} {w : Value → Value} {o : O}
    (h : ∀ ns, ((rowJ P S dr n f args (blks ⟨rd, [], 0, []⟩) e size m xs w).run o ns).map (fun x => (x.res.asks, x.l)) = ((rowJ P S dr n f args (blks ⟨rd, [], 0, []⟩) e size m xs w).run o ns).map (fun x => (x.res.asks.map fun l => l.map fun _ => True, x.r))) (h0 : ∀ ns, ((rowJ P S dr n f args (blks ⟨rd, [], 0, []⟩) e size m xs w).run o ns).map (fun x => x.res.asks.isSome) = some true) :
    Meets P (rowC' f args rd e size m xs w) := by
  intro hok W hpre
  have hall : (rowJ P S dr n f args (blks ⟨rd, [], 0, []⟩) e size m xs w).all fun _ => True := by
    refine all_of_run _ o fun ns => ?_
    have h := h ns
    have h0 := h0 ns
    cases hx : (rowJ P S dr n f args (blks ⟨rd, [], 0, []⟩) e size m xs w).run o ns with
    | none => rw [hx] at h0; cases h0
    | some x =>
      rw [hx] at h h0
      simp only [Option.map_some, Option.some.injEq, Prod.mk.injEq] at h h0
      cases ha : x.res.asks with
      | none => rw [ha] at h0; cases h0
      | some l =>
        rw [ha] at h
        refine ⟨x, rfl, h.2, Res.asks_holds ha fun p hp => ?_⟩
        have h1 := h.1
        simp only [Option.map_some, Option.some.injEq] at h1
        rw [h1] at hp
        obtain ⟨q, -, rfl⟩ := List.mem_map.1 hp
        trivial
  refine (fnB_sound hS hP (callJ_sound hS hd hP n) n hall W (rep_of_pre (c := ⟨rd, [], 2, []⟩) ⟨hpre.rd, hpre.use, hpre.nodup, hpre.apart, hpre.rb, hpre.apartB⟩)).mono ?_
  rintro en W' ⟨v, L, rfl, hr', hk⟩
  unfold endRow at hk
  split at hk
  · rename_i g m' cap _
    obtain ⟨hv, hk⟩ := hk
    have hv := tok_val hv
    obtain ⟨p, j, hj, hb, hk⟩ := pickT_spec hk
    split at hk
    · rename_i nm ct
      have hct := tok_cont hk.1
      subst hct
      have hb : g = nm := hb
      subst hb
      have hmc : m ≤ cap := by
        obtain ⟨cur, -, -, h3, -⟩ : Cont.sat (.row e size m cap xs) W'.heap[g]? := hr'.at hj
        exact h3
      refine ⟨_, List.mem_singleton_self _, [⟨g, 0, false, undef, []⟩, ⟨cap, 0, false, undef, []⟩], congrArg Ending.returned hv, ?_⟩
      refine post_of_rep hr' rfl hmc [j] (by simp) ?_
      have : pickL L [j] = [⟨g, .row e size m cap xs, true⟩] := by simp [pickL, hj]
      rw [this]
      exact ⟨⟨rfl, rfl, .inl rfl⟩, trivial⟩
    · exact hk.elim
  · exact hk.elim
end

end Go.Proofs.Ytbgmkefehfjicaa.Sy
