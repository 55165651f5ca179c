/-
  Symbolic runs: contexts, contracts that hand back a row.
-/
import Derived.Test.YtbgmkefehfjicaaSyE
namespace Go.Proofs.Ytbgmkefehfjicaa.Sy
open Go Go.RowKit

variable {P : Program}

def pickF {β : Type} (f : Nat) : List (Nat × β) → List β
  | [] => []
  | p :: r => match Nat.beq p.1 f with
    | true => p.2 :: pickF f r
    | false => pickF f r

theorem pickF_mem {β : Type} {f : Nat} {x : β} : ∀ {l : List (Nat × β)}, x ∈ pickF f l → ∃ p ∈ l, p.2 = x
  | [], h => by cases h
  | p :: r, h => by
    unfold pickF at h
    split at h
    · rcases List.mem_cons.1 h with rfl | h
      · exact ⟨p, List.mem_cons_self, rfl⟩
      · obtain ⟨q, hq, e⟩ := pickF_mem h
        exact ⟨q, List.mem_cons_of_mem _ hq, e⟩
    · obtain ⟨q, hq, e⟩ := pickF_mem h
      exact ⟨q, List.mem_cons_of_mem _ hq, e⟩

/-- Contracts of calls, by the function; of loops. -/
def mkS (cl : List (FuncId × (Array Value → List Blk → CallC))) (lp : List (FuncId × (F → List Blk → LoopC))) (op : List (FuncId × Nat × (F → List Blk → OpK))) : Ctx :=
  ⟨fun f => pickF f cl, fun f => pickF f lp, fun _ _ => [], fun f n => pickF n (pickF f op)⟩

theorem mkS_holds {cl : List (FuncId × (Array Value → List Blk → CallC))} {lp : List (FuncId × (F → List Blk → LoopC))} {op : List (FuncId × Nat × (F → List Blk → OpK))}
    (h1 : ∀ p ∈ cl, ∀ a L, Meets P (p.2 a L)) (h2 : ∀ p ∈ lp, ∀ a L, MeetsL P (p.2 a L)) (h3 : ∀ p ∈ op, ∀ a L, (p.2.2 a L).meets P) : (mkS cl lp op).holds P := by
  refine ⟨fun f c hc a L => ?_, fun f c hc a L => ?_, fun f n c hc => (by cases hc), fun f n c hc a L => ?_⟩
  · obtain ⟨p, hp, rfl⟩ := pickF_mem hc
    exact h1 p hp a L
  · obtain ⟨p, hp, rfl⟩ := pickF_mem hc
    exact h2 p hp a L
  · obtain ⟨p, hp, rfl⟩ := pickF_mem hc
    obtain ⟨q, hq, rfl⟩ := pickF_mem hp
    exact h3 q hq a L

def S0 : Ctx := mkS [] [] []
theorem S0_holds : S0.holds P := mkS_holds (fun _ h => (by cases h)) (fun _ h => (by cases h)) (fun _ h => (by cases h))

/-- The argument number i. -/
noncomputable def argI (a : Array Value) (i : Nat) : Int := match nth a.toList i with
  | some (.int _ n) => n
  | _ => 0
noncomputable def argN (a : Array Value) (i : Nat) : Nat := match nth a.toList i with
  | some (.slice (some ⟨b, _, _⟩) _ _) => b
  | some (.pointer (some ⟨b, _, _⟩)) => b
  | _ => 0

/-- Something that is told of the memory: a row of n elements, whose cells are xs. -/
def rowO (e size n : Nat) (xs : List Value) (v : Value → Value) : OutM × (List Let → Value) :=
  (⟨fun ns => n ≤ num ns 1, fun ns => [(num ns 0, .row e size n (num ns 1) xs)], fun _ => []⟩, fun ns => v (.slice (some ⟨num ns 0, 0, none⟩) n (num ns 1)))

theorem rowO_leaf {c : CallC} {e size n : Nat} {xs : List Value} {v : Value → Value} (ho : rowO e size n xs v ∈ c.outs) (hm : c.mem.m = 2) {g cap : Nat} {y : Value × List Blk} (i : Nat) {b : Blk} (hv : y.1 = v (.slice (some ⟨g, 0, none⟩) n cap)) (hb : y.2[i]? = some b) (hf : fitB b (g, .row e size n cap xs)) (hc : n ≤ cap) : leafC c y := by
  refine ⟨_, ho, [⟨g, 0, false, undef, []⟩, ⟨cap, 0, false, undef, []⟩], hm.symm, hv, ⟨[i], by simp, ?_⟩, hc⟩
  have : pickL y.2 [i] = [b] := by simp [pickL, hb]
  rw [this]
  exact ⟨hf, trivial⟩

theorem rowO_leaf' {c : CallC} {e size n n' : Nat} {xs xs' : List Value} {v : Value → Value} (ho : rowO e size n xs v ∈ c.outs) (hm : c.mem.m = 2) {g cap : Nat} {y : Value × List Blk} (i : Nat) (hv : y.1 = v (.slice (some ⟨g, 0, none⟩) n' cap)) (hb : y.2[i]? = some ⟨g, .row e size n' cap xs', true⟩) (hn : n' = n) (hx : xs' = xs) (hc : n' ≤ cap) : leafC c y := by
  subst hn hx
  exact rowO_leaf ho hm i hv hb ⟨rfl, rfl, .inl rfl⟩ hc

/-- Nothing is told of the memory. -/
def plainO (v : Value) : OutM × (List Let → Value) := (⟨fun _ => True, fun _ => [], fun _ => []⟩, fun _ => v)
theorem plainO_leaf {c : CallC} {v : Value} (ho : plainO v ∈ c.outs) (hm : c.mem.m = 0) {y : Value × List Blk} (hv : y.1 = v) : leafC c y :=
  ⟨_, ho, [], hm.symm, hv, ⟨[], List.nodup_nil, trivial⟩, trivial⟩

noncomputable def argA (a : Array Value) (i : Nat) : Array Value := match nth a.toList i with
  | some (.agg c) => c
  | _ => #[]

/-- The block that a pointer or a slice lies in; a slice's room. -/
def ptrN (v : Value) : Nat := match v with
  | .slice (some ⟨b, _, _⟩) _ _ => b
  | .pointer (some ⟨b, _, _⟩) => b
  | _ => 0
def capN (v : Value) : Nat := match v with
  | .slice _ _ c => c
  | _ => 0
noncomputable def argV (a : Array Value) (i : Nat) : Value := match nth a.toList i with
  | some v => v
  | _ => undef

/-! ### Tests -/

theorem b_and (b c : Bool) : ((bif b then c else false) = true) = (b = true ∧ c = true) := by cases b <;> cases c <;> simp
theorem b_or (b c : Bool) : ((bif b then true else c) = true) = (b = true ∨ c = true) := by cases b <;> cases c <;> simp
theorem b_not (b : Bool) : ((!b) = true) = ¬ (b = true) := by cases b <;> simp
theorem b_f (b : Bool) : (b = false) = ¬ (b = true) := by cases b <;> simp
theorem b_and' (b c : Bool) : ((b && c) = true) = (b = true ∧ c = true) := by cases b <;> cases c <;> simp
theorem b_or' (b c : Bool) : ((b || c) = true) = (b = true ∨ c = true) := by cases b <;> cases c <;> simp
theorem b_tt : (true = true) = True := by simp
theorem b_ft : (false = true) = False := by simp
theorem q_lt (a b : Int) : (Ex.ltQ a b = true) = (a < b) := by rw [Ex.ltQ_eq]; simp
theorem q_le (a b : Int) : (Ex.leQ a b = true) = (a ≤ b) := by rw [Ex.leQ_eq]; simp
theorem q_eq (a b : Int) : (Ex.eqQ a b = true) = (a = b) := by rw [Ex.eqQ_eq]; simp

/-! ### Rounds -/

theorem leafL_next {σ : Type} {c : LoopC} {ks : List Nat} {slots : σ → List (Nat × Value)} {mem : σ → List Blk} {ok : σ → Prop} {μ : σ → Nat} {s : σ} {n : Nat} {vs : List Value} {L : List Blk}
    (s' : σ) (hn : n = c.n) (hok : ok s') (hμ : μ s' < μ s) (hz : ks.zip vs = slots s') (pk : List Nat) (hpk : pk.Nodup) (hp : pickL L pk = mem s') : leafL c ks slots mem ok μ s (.normal, n, vs, L) :=
  ⟨hn, .inl ⟨rfl, s', hok, hμ, hz, pk, hpk, hp⟩⟩

theorem leafL_end {σ : Type} {c : LoopC} {ks : List Nat} {slots : σ → List (Nat × Value)} {mem : σ → List Blk} {ok : σ → Prop} {μ : σ → Nat} {s : σ} {x : Exit} {n : Nat} {vs : List Value} {L : List Blk}
    (i : Nat) {o : OutM × Exit × (List Let → List (Nat × Value))} (ho : c.outs[i]? = some o) (hx : x = o.2.1) (hne : x ≠ .normal) (hn : n = c.n) (ns : List Let) (hm : ns.length = c.mem.m) (q : List Nat) (hq : o.2.2 ns = q.filterMap fun i => (ks.zip vs)[i]?)
    (pk : List Nat) (hpk : pk.Nodup) (hf : fitsB (pickL L pk) (o.1.nw ns ++ o.1.nb ns)) (hh : o.1.hyp ns) : leafL c ks slots mem ok μ s (x, n, vs, L) :=
  ⟨hn, .inr ⟨hne, o, List.mem_of_getElem? ho, hx, ns, hm, ⟨q, hq⟩, ⟨pk, hpk, hf⟩, hh⟩⟩

/-- A counter's step. -/
theorem inc_q (k : Nat) (h : k < 9223372036854775807) : Ex.wrapQ .i64 (Ex.addQ (k : Int) 1) = ((k + 1 : Nat) : Int) := by
  rw [Ex.wrapQ_eq, Ex.addQ_eq]
  simp [IntKind.wrap, IntKind.signed, IntKind.bits]
  omega

/-! ### Parts of a function -/

def loopsOf : Code → List Code
  | .loop c => c :: loopsOf c
  | .seq a b => loopsOf a ++ loopsOf b
  | .block _ c | .scope c => loopsOf c
  | .cond _ a b => loopsOf a ++ loopsOf b
  | _ => []

/-- The body of a function's loop number k (from 0). -/
def loopBody (f : Func) (k : Nat) : Code := match f.body with
  | some c => (loopsOf c).getD k .skip
  | none => .skip

/-- A contract without memory. -/
def plainC (f : FuncId) (args : Array Value) (v : Value) : CallC := ⟨f, args, True, ⟨[], [], 0, []⟩, [plainO v]⟩
theorem meets_plain {f : FuncId} {args : Array Value} {v : Value} (h : ∀ W, Calls P f args W fun e W' => e = .returned v ∧ Below W.heap.size W W') : Meets P (plainC f args v) :=
  fun _ W _ => (h W).mono fun _ _ h => ⟨_, List.mem_singleton_self _, [], h.1, ⟨rfl, trivial, h.2.os, h.2.tape, h.2.output, h.2.size, fun k hk _ => h.2.block k hk, fun _ hp => (by cases hp), List.nodup_nil, fun _ hp => (by cases hp), List.nodup_nil, fun _ _ _ hq => (by cases hq)⟩⟩

end Go.Proofs.Ytbgmkefehfjicaa.Sy
