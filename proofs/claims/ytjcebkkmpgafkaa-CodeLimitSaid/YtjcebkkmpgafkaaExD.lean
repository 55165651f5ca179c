/-
  The evaluator's given operations: an index, an append.
-/
import Derived.Test.YtjcebkkmpgafkaaExC
import Derived.Deep.AppendLies
namespace Go.Proofs.Ytjcebkkmpgafkaa.Ex
open Go Go.RowKit

variable {P : Program}

def opV (s : Sem Value) : Sem Next := do pure (.value (← s))
theorem opV_run {s : Sem Value} {W W' : World} {v : Value} (h : s.run P W = .ok v W') : (opV s).run P W = .ok (.value v) W' := by
  simp [opV, h]

theorem addr_add (b o n : Nat) : (⟨b, o, none⟩ : Addr).add n = ⟨b, o + n, none⟩ := by
  unfold Addr.add
  split
  · rename_i h; subst h; rfl
  · rfl

/-- xs[i], the address. -/
theorem index_run {t e : TypeId} {i : TypeInfo} {size : Nat} (ht : P.underlying t = some (.slice e)) (hi : P.info? e = some i) (hs : i.size = size) (b o n c k : Nat) (hk : k < n) (W : World) :
    (opV (Instr.indexAt t (.slice (some ⟨b, o, none⟩) n c) (.int .i64 (k : Nat)))).run P W = .ok (.value (.pointer (some ⟨b, o + k * size, none⟩))) W := by
  refine opV_run ?_
  have h1 : (0 : Int) ≤ (k : Int) ∧ (k : Int) < (n : Int) := by omega
  simp [Instr.indexAt, run_underlying ht, sizeOf, typeInfo, hi, asIntOf, h1, addr_add, hs, hk]

/-- Some cells, one behind the other. -/
def lies (W : World) (s o : Nat) (xs : List Value) : Prop := ∀ j u, xs[j]? = some u → W.cell? ⟨s, o + j, none⟩ = some u

theorem lies_of {W : World} {s o : Nat} {ct : Cont} {xs : List Value} (h : ct.sat W.heap[s]?) (hx : ∀ j u, xs[j]? = some u → ct.at (o + j) = some u) : lies W s o xs := fun j u hu =>
  cell_at rfl h rfl (hx j u hu)

def appSem (t ty : TypeId) (v x : Value) : Sem Next := opV (Builtin.append_ #[t, t] ty #[v, x])

theorem row_own {W : World} {g : Nat} {e : TypeId} {size n cap : Nat} {xs : List Value} (h : (Cont.row e size n cap xs).sat W.heap[g]?) : W.ownsRow 0 e size (.slice (some ⟨g, 0, none⟩) n cap) n xs := by
  obtain ⟨cur, h1, h2, h3, h4, h5, h6⟩ := h
  exact ⟨h2, .inr ⟨g, cap, cur, rfl, Nat.zero_le _, h1, h3, h4, h5, h6⟩⟩

theorem own_row {W : World} {g : Nat} {e : TypeId} {size n cap : Nat} {xs : List Value} (h : W.ownsRow 0 e size (.slice (some ⟨g, 0, none⟩) n cap) n xs) : (Cont.row e size n cap xs).sat W.heap[g]? := by
  obtain ⟨h2, h⟩ := h
  rcases h with ⟨h, -⟩ | ⟨g', cap', cur, he, -, h1, h3, h4, h5, h6⟩
  · cases h
  · injection he with e1 e2 e3
    injection e1 with e1
    injection e1 with e1
    subst e1 e3
    exact ⟨cur, h1, h2, h3, h4, h5, h6⟩

def num (ns : List (Nat × List Value)) (j : Nat) : Nat := (ns.getD j (0, [])).1

/-- append(v, x...): v is nil, or a row that is used up; the new elements lie in block s from o on. -/
def appC (rd : List (Nat × Cont)) (use : List (Nat × Cont)) (e : TypeId) (size n m : Nat) (xs : List Value) : OpC :=
  ⟨⟨rd, use, 2, fun ns => n + m ≤ num ns 1, fun ns => [(num ns 0, .row e size (n + m) (num ns 1) xs)]⟩, fun ns => .slice (some ⟨num ns 0, 0, none⟩) (n + m) (num ns 1)⟩

structure Elem (P : Program) (t e : TypeId) (size bytes : Nat) : Prop where
  under : P.underlying t = some (.slice e)
  info : ∃ i z, P.info? e = some i ∧ i.zero = some z ∧ i.size = size ∧ i.bytes = bytes ∧ z.cells.size = size
  pos : 0 < size

theorem app_any {t ty e : TypeId} {size bytes : Nat} (he : Elem P t e size bytes) {rd use : List (Nat × Cont)} {v : Value} {n m c s o : Nat} {xs news : List Value}
    (hv : (v = .slice none 0 0 ∧ n = 0 ∧ use = [] ∧ xs = []) ∨ ∃ g cap, v = .slice (some ⟨g, 0, none⟩) n cap ∧ use = [(g, .row e size n cap xs)])
    (hl : news.length = m * size) (hm : 0 < m) (h1 : ∀ u ∈ news, u.oneCell' = true) (h63 : n + m ≤ maxLen) (hb : (n + m) * bytes ≤ 140737488355328)
    (hsrc : ∀ W : World, (appC rd use e size n m (xs ++ news)).mem.pre W → lies W s o news) : OpMeets P (appSem t ty v (.slice (some ⟨s, o, none⟩) m c)) (appC rd use e size n m (xs ++ news)) := by
  intro W hpre
  obtain ⟨i, z, hi, hz, hsz, hby, hzs⟩ := he.info
  have hown : W.ownsRow 0 e size v n xs := by
    rcases hv with ⟨rfl, rfl, -, rfl⟩ | ⟨g, cap, rfl, rfl⟩
    · exact ⟨by simp, .inl ⟨rfl, rfl⟩⟩
    · exact row_own (hpre.use _ (List.mem_singleton_self _))
  have hnews : ∀ j u, news[j]? = some u → W.cell? ((⟨s, o, none⟩ : Addr).add j) = some u := fun j u hu => by
    rw [addr_add]; exact hsrc W hpre j u hu
  obtain ⟨g, cap, W', hrun, how, hgr, hat, hlt⟩ := run_append_lies (P := P) W t ty 0 e i z size bytes he.under hi hz hsz hby hzs he.pos v n xs hown ⟨s, o, none⟩ m c news hl hnews h1 hm h63 hb (Nat.zero_le _) W.heap.size rfl
  have hrow := own_row how
  refine ⟨[(g, []), (cap, [])], W', opV_run hrun, rfl, ?_, hgr.os, hgr.tape, hgr.output, hgr.size, fun k hk hno => hgr.block k hk ?_, fun p hp => ?_, by simp [appC]⟩
  · obtain ⟨cur, -, -, h3, -⟩ := hrow
    exact h3
  · rcases hv with ⟨rfl, -, -, -⟩ | ⟨g', cap', rfl, rfl⟩
    · simp [Value.ownBlock]
    · have := hno (g', .row e size n cap' xs) (List.mem_singleton_self _)
      simp only [Value.ownBlock, ne_eq, Option.some.injEq]
      exact fun h => this h.symm
  · rcases List.mem_singleton.1 hp with rfl
    refine ⟨?_, hrow⟩
    rcases hat with h | rfl
    · rcases hv with ⟨rfl, -, -, -⟩ | ⟨g', cap', rfl, rfl⟩
      · simp [Value.ownBlock] at h
      · simp only [Value.ownBlock, Option.some.injEq] at h
        exact .inr ⟨_, List.mem_singleton_self _, h⟩
    · exact .inl (Nat.le_refl _)

/-- append(v, x...) where x lies in a block that is known. -/
theorem app_met {t ty e : TypeId} {size bytes : Nat} (he : Elem P t e size bytes) {use : List (Nat × Cont)} {v : Value} {n m c s o : Nat} {ct : Cont} {xs news : List Value}
    (hv : (v = .slice none 0 0 ∧ n = 0 ∧ use = [] ∧ xs = []) ∨ ∃ g cap, v = .slice (some ⟨g, 0, none⟩) n cap ∧ use = [(g, .row e size n cap xs)])
    (hl : news.length = m * size) (hm : 0 < m) (h1 : ∀ u ∈ news, u.oneCell' = true) (h63 : n + m ≤ maxLen) (hb : (n + m) * bytes ≤ 140737488355328)
    (hct : ∀ j u, news[j]? = some u → ct.at (o + j) = some u) : OpMeets P (appSem t ty v (.slice (some ⟨s, o, none⟩) m c)) (appC [(s, ct)] use e size n m (xs ++ news)) :=
  app_any he hv hl hm h1 h63 hb fun _ hpre => lies_of (hpre.rd _ (List.mem_singleton_self _)) hct

/-- A CALL by its value alone; what it may read is given. -/
theorem calls_plain {S : Ctx} (hS : S.holds P) (hP : P.follows .mixedOrders = true) (n : Nat) {f : FuncId} {args : Array Value} {L0 : List Blk} (orc : Option (List Nat)) (v : Value) (q : (Nat → Nat) → (Nat → List Value) → List (Bool × Prop))
    (h1 : ∀ ns ls, (callOut P S n f args L0 orc ns ls).map (fun x => (x.a.1, x.q)) = some (v, q ns ls))
    (h2 : ∀ ns ls, (callOut P S n f args L0 orc ns ls).map (·.l) = (callOut P S n f args L0 orc ns ls).map (·.r))
    (hq : ∀ ns ls, holds True (q ns ls)) {W : World} (hr : Rep W (fun _ => True) (E0 L0 none) W) : Calls P f args W fun e W' => e = .returned v ∧ Below W.heap.size W W' := by
  have hall : (evCall P S (ev P S n) f args (E0 L0 orc)).all fun y => y.1 = v := by
    refine all_of_run _ fun ns ls => ?_
    have e1 := h1 ns ls
    have e2 := h2 ns ls
    have hq := hq ns ls
    unfold callOut at e1 e2
    cases hx : (evCall P S (ev P S n) f args (E0 L0 orc)).run ns ls with
    | none => rw [hx] at e1; cases e1
    | some x =>
      rw [hx] at e1 e2
      simp only [Option.map_some, Option.some.injEq, Prod.mk.injEq] at e1 e2
      refine ⟨x, rfl, e2, ?_⟩
      rw [← e1.2] at hq
      exact holds_mono (fun _ => e1.1) _ hq
  refine (evCall_sound hS (ev_sound hS hP n) _ _ _ _ hall W (hr.of_eq rfl)).mono ?_
  rintro en W' ⟨v', e', rfl, hr', rfl⟩
  exact ⟨rfl, hr'.below⟩

end Go.Proofs.Ytjcebkkmpgafkaa.Ex
