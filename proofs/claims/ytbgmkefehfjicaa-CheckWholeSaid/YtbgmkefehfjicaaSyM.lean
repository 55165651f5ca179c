/-
  Closed runs that hand back several new blocks, which lead to one another.
-/
import Derived.Test.YtbgmkefehfjicaaSyK
namespace Go.Proofs.Ytbgmkefehfjicaa.Sy
open Go Go.RowKit

/-- k choices below 32, in one number. -/
def O.pack (k n : Nat) (o : O) : O := @Nat.rec (fun _ => Nat → O) (fun _ => o) (fun _ ih n => .step (Nat.mod n 32) (ih (Nat.div n 32))) k n

def capOf (c : Cont) : Nat := match c with
  | .row _ _ _ cap _ => cap
  | _ => 0

/-! ### A run at numbers (for the tool) -/

def ns0 (i : Nat) : Let := ⟨Nat.add 1000 i, 0, false, undef, []⟩

noncomputable def Res.leaf? {α : Type} : Res α → Option α
  | .leaf a => some a
  | .need _ r => r.leaf?
  | .hyp _ r => r.leaf?
  | .both x _ => x.leaf?
  | .br _ x _ => x.leaf?

noncomputable def T.leaf0 {α : Type} (t : T α) (o : O) : Option α := match t.run o ns0 with
  | some x => x.res.leaf?
  | none => none

/-- A letter's number. -/
noncomputable def letN (k : Nat) (ns : List Let) : Nat := match nth ns k with
  | some x => x.n
  | none => 0

/-- The letters of some blocks: the name and the room of each. -/
def letsOf : List Blk → List Let
  | [] => []
  | b :: r => ⟨b.nm, 0, false, undef, []⟩ :: ⟨capOf b.ct, 0, false, undef, []⟩ :: letsOf r

theorem letsOf_length : ∀ l : List Blk, (letsOf l).length = 2 * l.length
  | [] => rfl
  | b :: r => by simp only [letsOf, List.length_cons, letsOf_length r]; omega

noncomputable def sameAll : List Blk → List (Nat × Cont) → T Unit
  | [], [] => .ret ()
  | ⟨nm, ct, true⟩ :: l, (n, c) :: r => .same (.nat nm) (.nat n) (.same (.cont ct) (.cont c) (sameAll l r))
  | _, _ => .fail

theorem sameAll_spec {K : Unit → Prop} : ∀ (l : List Blk) (r : List (Nat × Cont)), (sameAll l r).all K → fitsB l r
  | [], [], _ => trivial
  | [], _ :: _, h => h.elim
  | _ :: _, [], h => by
    unfold sameAll at h
    split at h <;> first | contradiction | exact h.elim
  | ⟨nm, ct, false⟩ :: l, (n, c) :: r, h => h.elim
  | ⟨nm, ct, true⟩ :: l, (n, c) :: r, h => by
    obtain ⟨h1, h2, h3⟩ := h
    injection h1 with h1
    have h2 := tok_cont h2
    subst h1 h2
    exact ⟨⟨rfl, rfl, .inl rfl⟩, sameAll_spec l r h3⟩

noncomputable def endG (ps : List Nat) (k : Nat) (v : List Let → Value) (nw : List Let → List (Nat × Cont)) (v' : Value) (L' : List Blk) : T Unit := match pickL L' ps with
  | bl => .same (.nat bl.length) (.nat k) (.same (.val v') (.val (v (letsOf bl))) (sameAll bl (nw (letsOf bl))))

/-- A contract of a call that reads some blocks and hands back k new ones. -/
def graphC (f : FuncId) (args : Array Value) (rd : List (Nat × Cont)) (k : Nat) (v : List Let → Value) (nw : List Let → List (Nat × Cont)) : CallC := ⟨f, args, True, ⟨rd, [], 2 * k, []⟩, [(⟨fun _ => True, nw, fun _ => []⟩, v)]⟩

section
variable (P : Program) (S : Ctx) (dr : How)
noncomputable def graphJ (n : Nat) (f : FuncId) (args : Array Value) (L : List Blk) (ps : List Nat) (k : Nat) (v : List Let → Value) (nw : List Let → List (Nat × Cont)) : T Unit := (fnB P S f).run (callJ P S dr n) n args L (endG ps k v nw)
end

section
variable {P : Program} {S : Ctx} {dr : How}

theorem meets_graphJ (hS : S.holds P) (hd : dr.holds P) (hP : P.follows .mixedOrders = true) {n : Nat} {f : FuncId} {args : Array Value} {rd : List (Nat × Cont)} (ps : List Nat) (hps : ps.Nodup) {k : Nat} {v : List Let → Value} {nw : List Let → List (Nat × Cont)} {o : O}
    (h : ∀ ns, ((graphJ P S dr n f args (blks ⟨rd, [], 0, []⟩) ps k v nw).run o ns).map (fun x => (x.res.asks, x.l)) = ((graphJ P S dr n f args (blks ⟨rd, [], 0, []⟩) ps k v nw).run o ns).map (fun x => (x.res.asks.map fun l => l.map fun _ => True, x.r))) (h0 : ∀ ns, ((graphJ P S dr n f args (blks ⟨rd, [], 0, []⟩) ps k v nw).run o ns).map (fun x => x.res.asks.isSome) = some true) :
    Meets P (graphC f args rd k v nw) := by
  intro hok W hpre
  have hall : (graphJ P S dr n f args (blks ⟨rd, [], 0, []⟩) ps k v nw).all fun _ => True := by
    refine all_of_run _ o fun ns => ?_
    have h := h ns
    have h0 := h0 ns
    cases hx : (graphJ P S dr n f args (blks ⟨rd, [], 0, []⟩) ps k v nw).run o ns with
    | none => rw [hx] at h0; cases h0
    | some x =>
      rw [hx] at h h0
      simp only [Option.map_some, Option.some.injEq, Prod.mk.injEq] at h h0
      cases ha : x.res.asks with
      | none => rw [ha] at h0; cases h0
      | some l =>
        rw [ha] at h
        refine ⟨x, rfl, h.2, Res.asks_holds ha fun p hp => ?_⟩
        have h1 := h.1
        simp only [Option.map_some, Option.some.injEq] at h1
        rw [h1] at hp
        obtain ⟨q, -, rfl⟩ := List.mem_map.1 hp
        trivial
  refine (fnB_sound hS hP (callJ_sound hS hd hP n) n hall W (rep_of_pre (c := ⟨rd, [], 2 * k, []⟩) ⟨hpre.rd, hpre.use, hpre.nodup, hpre.apart, hpre.rb, hpre.apartB⟩)).mono ?_
  rintro en W' ⟨v', L, rfl, hr', hk⟩
  obtain ⟨h1, h2, h3⟩ := hk
  injection h1 with h1
  have h2 := tok_val h2
  refine ⟨_, List.mem_singleton_self _, letsOf (pickL L ps), congrArg Ending.returned h2, ?_⟩
  exact post_of_rep hr' (by rw [letsOf_length, h1]; rfl) trivial ps hps (by
    show fitsB _ (nw _ ++ [])
    rw [List.append_nil]
    exact sameAll_spec _ _ h3)
end

end Go.Proofs.Ytbgmkefehfjicaa.Sy
