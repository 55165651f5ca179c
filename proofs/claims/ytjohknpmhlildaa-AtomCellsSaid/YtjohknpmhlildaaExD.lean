/-
  The evaluator's given operations: an index, an append.
-/
import Derived.Test.YtjohknpmhlildaaExC
import Derived.Deep.AppendLies
namespace Go.Proofs.Ytjohknpmhlildaa.Ex
open Go Go.RowKit

variable {P : Program}

def opV (s : Sem Value) : Sem Next := do pure (.value (← s))
theorem opV_run {s : Sem Value} {W W' : World} {v : Value} (h : s.run P W = .ok v W') : (opV s).run P W = .ok (.value v) W' := by
  simp [opV, h]

theorem addr_add (b o n : Nat) : (⟨b, o, none⟩ : Addr).add n = ⟨b, o + n, none⟩ := by
  unfold Addr.add
  split
  · rename_i h; subst h; rfl
  · rfl

/-- xs[i], the address. -/
theorem index_run {t e : TypeId} {i : TypeInfo} {size : Nat} (ht : P.underlying t = some (.slice e)) (hi : P.info? e = some i) (hs : i.size = size) (b o n c k : Nat) (hk : k < n) (W : World) :
    (opV (Instr.indexAt t (.slice (some ⟨b, o, none⟩) n c) (.int .i64 (k : Nat)))).run P W = .ok (.value (.pointer (some ⟨b, o + k * size, none⟩))) W := by
  refine opV_run ?_
  have h1 : (0 : Int) ≤ (k : Int) ∧ (k : Int) < (n : Int) := by omega
  simp [Instr.indexAt, run_underlying ht, sizeOf, typeInfo, hi, asIntOf, h1, addr_add, hs, hk]

/-- A loop that is to be run round by round. -/
def unroll : LoopC := ⟨.skip, 0, [], readM [], .normal, fun _ => []⟩
theorem unroll_met : MeetsL P unroll := by
  intro a W hk _
  refine wp_skip ?_
  exact ⟨rfl, [], hk, post_read (Below.refl _ _)⟩

/-- xs[:k] -/
theorem slice_run {t e : TypeId} {i : TypeInfo} (ht : P.underlying t = some (.slice e)) (hi : P.info? e = some i) (g n c k : Nat) (hk : k ≤ c) (W : World) :
    (opV (Instr.sliceAt t (.slice (some ⟨g, 0, none⟩) n c) none (some (.int .i64 (k : Nat))) none)).run P W = .ok (.value (.slice (some ⟨g, 0, none⟩) k c)) W := by
  refine opV_run ?_
  have h1 : (0 : Int) ≤ (k : Int) ∧ (k : Int) ≤ (c : Int) := by omega
  simp [Instr.sliceAt, Instr.slice, Instr.sliceBounds, Instr.sliceBound, run_underlying ht, sizeOf, typeInfo, hi, asIntOf, h1, hk, addr_add]

/-- Some cells, one behind the other. -/
def lies (W : World) (s o : Nat) (xs : List Value) : Prop := ∀ j u, xs[j]? = some u → W.cell? ⟨s, o + j, none⟩ = some u

theorem lies_of {W : World} {s o : Nat} {ct : Cont} {xs : List Value} (h : ct.sat W.heap[s]?) (hx : ∀ j u, xs[j]? = some u → ct.at (o + j) = some u) : lies W s o xs := fun j u hu =>
  cell_at rfl h rfl (hx j u hu)

def appSem (t ty : TypeId) (v x : Value) : Sem Next := opV (Builtin.append_ #[t, t] ty #[v, x])

theorem row_own {W : World} {g : Nat} {e : TypeId} {size n cap : Nat} {xs : List Value} (h : (Cont.row e size n cap xs).sat W.heap[g]?) : W.ownsRow 0 e size (.slice (some ⟨g, 0, none⟩) n cap) n xs := by
  obtain ⟨cur, h1, h2, h3, h4, h5, h6⟩ := h
  exact ⟨h2, .inr ⟨g, cap, cur, rfl, Nat.zero_le _, h1, h3, h4, h5, h6⟩⟩

theorem own_row {W : World} {g : Nat} {e : TypeId} {size n cap : Nat} {xs : List Value} (h : W.ownsRow 0 e size (.slice (some ⟨g, 0, none⟩) n cap) n xs) : (Cont.row e size n cap xs).sat W.heap[g]? := by
  obtain ⟨h2, h⟩ := h
  rcases h with ⟨h, -⟩ | ⟨g', cap', cur, he, -, h1, h3, h4, h5, h6⟩
  · cases h
  · injection he with e1 e2 e3
    injection e1 with e1
    injection e1 with e1
    subst e1 e3
    exact ⟨cur, h1, h2, h3, h4, h5, h6⟩

def num (ns : List (Nat × List Value)) (j : Nat) : Nat := (ns.getD j (0, [])).1

/-- append(v, x...): v is nil, or a row that is used up; the new elements lie in block s from o on. -/
def appC (rd : List (Nat × Cont)) (use : List (Nat × Cont)) (e : TypeId) (size n m : Nat) (xs : List Value) : OpC :=
  ⟨⟨rd, use, 2, fun ns => n + m ≤ num ns 1, fun ns => [(num ns 0, .row e size (n + m) (num ns 1) xs)]⟩, fun ns => .slice (some ⟨num ns 0, 0, none⟩) (n + m) (num ns 1), false⟩

structure Elem (P : Program) (t e : TypeId) (size bytes : Nat) : Prop where
  under : P.underlying t = some (.slice e)
  info : ∃ i z, P.info? e = some i ∧ i.zero = some z ∧ i.size = size ∧ i.bytes = bytes ∧ z.cells.size = size
  pos : 0 < size

theorem app_any {t ty e : TypeId} {size bytes : Nat} (he : Elem P t e size bytes) {rd use : List (Nat × Cont)} {v : Value} {n m c s o : Nat} {xs news : List Value}
    (hv : (v = .slice none 0 0 ∧ n = 0 ∧ use = [] ∧ xs = []) ∨ ∃ g cap, v = .slice (some ⟨g, 0, none⟩) n cap ∧ use = [(g, .row e size n cap xs)])
    (hl : news.length = m * size) (hm : 0 < m) (h1 : ∀ u ∈ news, u.oneCell' = true) (h63 : n + m ≤ maxLen) (hb : (n + m) * bytes ≤ 140737488355328)
    (hsrc : ∀ W : World, (appC rd use e size n m (xs ++ news)).mem.pre W → lies W s o news) : OpMeets P (appSem t ty v (.slice (some ⟨s, o, none⟩) m c)) (appC rd use e size n m (xs ++ news)) := by
  intro W hpre
  obtain ⟨i, z, hi, hz, hsz, hby, hzs⟩ := he.info
  have hown : W.ownsRow 0 e size v n xs := by
    rcases hv with ⟨rfl, rfl, -, rfl⟩ | ⟨g, cap, rfl, rfl⟩
    · exact ⟨by simp, .inl ⟨rfl, rfl⟩⟩
    · exact row_own (hpre.use _ (List.mem_singleton_self _))
  have hnews : ∀ j u, news[j]? = some u → W.cell? ((⟨s, o, none⟩ : Addr).add j) = some u := fun j u hu => by
    rw [addr_add]; exact hsrc W hpre j u hu
  obtain ⟨g, cap, W', hrun, how, hgr, hat, hlt⟩ := run_append_lies (P := P) W t ty 0 e i z size bytes he.under hi hz hsz hby hzs he.pos v n xs hown ⟨s, o, none⟩ m c news hl hnews h1 hm h63 hb (Nat.zero_le _) W.heap.size rfl
  have hrow := own_row how
  refine ⟨[(g, []), (cap, [])], W', opV_run hrun, rfl, ?_, hgr.os, hgr.tape, hgr.output, hgr.size, fun k hk hno => hgr.block k hk ?_, fun p hp => ?_, by simp [appC]⟩
  · obtain ⟨cur, -, -, h3, -⟩ := hrow
    exact h3
  · rcases hv with ⟨rfl, -, -, -⟩ | ⟨g', cap', rfl, rfl⟩
    · simp [Value.ownBlock]
    · have := hno (g', .row e size n cap' xs) (List.mem_singleton_self _)
      simp only [Value.ownBlock, ne_eq, Option.some.injEq]
      exact fun h => this h.symm
  · rcases List.mem_singleton.1 hp with rfl
    refine ⟨?_, hrow⟩
    rcases hat with h | rfl
    · rcases hv with ⟨rfl, -, -, -⟩ | ⟨g', cap', rfl, rfl⟩
      · simp [Value.ownBlock] at h
      · simp only [Value.ownBlock, Option.some.injEq] at h
        exact .inr ⟨_, List.mem_singleton_self _, h⟩
    · exact .inl (Nat.le_refl _)

/-- append(v, x...) where x lies in a block that is known. -/
theorem app_met {t ty e : TypeId} {size bytes : Nat} (he : Elem P t e size bytes) {use : List (Nat × Cont)} {v : Value} {n m c s o : Nat} {ct : Cont} {xs news : List Value}
    (hv : (v = .slice none 0 0 ∧ n = 0 ∧ use = [] ∧ xs = []) ∨ ∃ g cap, v = .slice (some ⟨g, 0, none⟩) n cap ∧ use = [(g, .row e size n cap xs)])
    (hl : news.length = m * size) (hm : 0 < m) (h1 : ∀ u ∈ news, u.oneCell' = true) (h63 : n + m ≤ maxLen) (hb : (n + m) * bytes ≤ 140737488355328)
    (hct : ∀ j u, news[j]? = some u → ct.at (o + j) = some u) : OpMeets P (appSem t ty v (.slice (some ⟨s, o, none⟩) m c)) (appC [(s, ct)] use e size n m (xs ++ news)) :=
  app_any he hv hl hm h1 h63 hb fun _ hpre => lies_of (hpre.rd _ (List.mem_singleton_self _)) hct

/-- A CALL by its value alone; what it may read is given. -/
theorem calls_plain {S : Ctx} (hS : S.holds P) (hP : P.follows .mixedOrders = true) (n : Nat) {f : FuncId} {args : Array Value} {L0 : List Blk} (orc : Option (List Nat)) (v : Value) (q : (Nat → Nat) → (Nat → List Value) → List (Bool × Prop))
    (h1 : ∀ ns ls, (callOut P S n f args L0 orc ns ls).map (fun x => (x.a.1, x.q)) = some (v, q ns ls))
    (h2 : ∀ ns ls, (callOut P S n f args L0 orc ns ls).map (·.l) = (callOut P S n f args L0 orc ns ls).map (·.r))
    (hq : ∀ ns ls, holds True (q ns ls)) {W : World} (hr : Rep W (fun _ => True) (E0 L0 none) W) : Calls P f args W fun e W' => e = .returned v ∧ Below W.heap.size W W' := by
  have hall : (evCall P S (ev P S n) f args (E0 L0 orc)).all fun y => y.1 = v := by
    refine all_of_run _ fun ns ls => ?_
    have e1 := h1 ns ls
    have e2 := h2 ns ls
    have hq := hq ns ls
    unfold callOut at e1 e2
    cases hx : (evCall P S (ev P S n) f args (E0 L0 orc)).run ns ls with
    | none => rw [hx] at e1; cases e1
    | some x =>
      rw [hx] at e1 e2
      simp only [Option.map_some, Option.some.injEq, Prod.mk.injEq] at e1 e2
      refine ⟨x, rfl, e2, ?_⟩
      rw [← e1.2] at hq
      exact holds_mono (fun _ => e1.1) _ hq
  refine (evCall_sound hS (ev_sound hS hP n) _ _ _ _ hall W (hr.of_eq rfl)).mono ?_
  rintro en W' ⟨v', e', rfl, hr', rfl⟩
  exact ⟨rfl, hr'.below⟩

/-! ### A store at an index of a row -/

def opU (s : Sem Unit) : Sem Next := do s; pure .skip
theorem opU_run {s : Sem Unit} {W W' : World} (h : s.run P W = .ok () W') : (opU s).run P W = .ok .skip W' := by
  simp [opU, h]

def setAt (xs : List Value) (o : Nat) : List Value → List Value
  | [] => xs
  | v :: vs => setAt (xs.set o v) (o + 1) vs

/-- row[o..] = vs -/
def putC (g : Nat) (e : TypeId) (size n cap : Nat) (xs : List Value) (o : Nat) (vs : List Value) : OpC :=
  ⟨⟨[], [(g, .row e size n cap xs)], 0, fun _ => True, fun _ => [(g, .row e size n cap (setAt xs o vs))]⟩, fun _ => undef, true⟩

/-- Cells stored one by one. -/
def storeAll (b o : Nat) : List Value → World → World
  | [], W => W
  | v :: vs, W => storeAll b (o + 1) vs (W.setCell ⟨b, o, none⟩ v)

theorem storeAll_frame (b : Nat) : ∀ (vs : List Value) (o : Nat) (W : World), (storeAll b o vs W).os = W.os ∧ (storeAll b o vs W).tape = W.tape ∧ (storeAll b o vs W).output = W.output ∧ (storeAll b o vs W).heap.size = W.heap.size ∧ ∀ k, k ≠ b → (storeAll b o vs W).heap[k]? = W.heap[k]?
  | [], o, W => ⟨rfl, rfl, rfl, rfl, fun _ _ => rfl⟩
  | v :: vs, o, W => by
    obtain ⟨h1, h2, h3, h4, h5⟩ := storeAll_frame b vs (o + 1) (W.setCell ⟨b, o, none⟩ v)
    refine ⟨h1, h2, h3, by rw [storeAll, h4]; simp [World.setCell], fun k hk => ?_⟩
    rw [storeAll, h5 k hk]
    simp only [World.setCell, Array.getElem?_modify]
    rw [if_neg (fun h => hk h.symm)]

theorem row_set {W : World} {g : Nat} {e : TypeId} {size n cap : Nat} {xs : List Value} {o : Nat} {v : Value} (h : (Cont.row e size n cap xs).sat W.heap[g]?) : (Cont.row e size n cap (xs.set o v)).sat (W.setCell ⟨g, o, none⟩ v).heap[g]? := by
  obtain ⟨cur, hat, hlen, hnc, hcm, hcs, htk⟩ := h
  refine ⟨cur.setIfInBounds o v, ?_, by simpa using hlen, hnc, hcm, by simpa using hcs, ?_⟩
  · simp only [World.setCell, Array.getElem?_modify, if_true, hat]
    simp
  · rw [Array.toList_setIfInBounds, ← htk, List.take_set]

theorem storeAll_row : ∀ (vs : List Value) {W : World} {g : Nat} {e : TypeId} {size n cap : Nat} {xs : List Value} {o : Nat}, (Cont.row e size n cap xs).sat W.heap[g]? → (Cont.row e size n cap (setAt xs o vs)).sat (storeAll g o vs W).heap[g]?
  | [], _, _, _, _, _, _, _, _, h => h
  | _ :: vs, _, _, _, _, _, _, _, _, h => storeAll_row vs (row_set h)

theorem storeCells_run {g o : Nat} : ∀ (vs : List Value) (i : Nat) {W : World} {e : TypeId} {size n cap : Nat} {xs : List Value}, (∀ v ∈ vs, Ev.one v = true) → o + i + vs.length ≤ n * size → (Cont.row e size n cap xs).sat W.heap[g]? →
    (storeCells ⟨g, o, none⟩ vs i).run P W = .ok () (storeAll g (o + i) vs W) := by
  intro vs
  induction vs with
  | nil => intros; simp [storeCells, storeAll]
  | cons v vs ih =>
    intro i W e size n cap xs hone hlen hrow
    have hrow' := hrow
    obtain ⟨cur, hat, hl, hnc, hcm, hcs, htk⟩ := hrow
    have hcell : ∃ u, W.cell? ⟨g, o + i, none⟩ = some u := by
      have hx : o + i < xs.length := by rw [hl]; simp only [List.length_cons] at hlen; omega
      exact ⟨xs[o + i], cell_at (ct := .row e size n cap xs) rfl hrow' rfl (List.getElem?_eq_getElem hx)⟩
    obtain ⟨u, hu⟩ := hcell
    have hfz : W.frozen? ⟨g, o + i, none⟩ = false := by rw [Ev.frozen_of (b := g) rfl hat]; simp
    have h1 := hone v List.mem_cons_self
    have hstep : (store ⟨g, o + i, none⟩ v).run P W = .ok () (W.setCell ⟨g, o + i, none⟩ v) := by
      cases v <;> first | (simp [Ev.one] at h1; done) | (simp [store, Sem.run, hu, hfz])
    have := ih (i + 1) (W := W.setCell ⟨g, o + i, none⟩ v) (fun x hx => hone x (List.mem_cons_of_mem _ hx)) (by simp only [List.length_cons] at hlen; omega) (row_set (v := v) hrow')
    simp only [storeCells, Sem.run_bind, addr_add, hstep, Result.andThen_ok, this, storeAll]
    rw [Nat.add_assoc]

theorem put_met {t e : TypeId} {size : Nat} {i : TypeInfo} (hi : P.info? t = some i) (hs : i.size = size) {v : Value} {vs : List Value} (hv : v.cells.toList = vs) (hl : vs.length = size) (hone : ∀ u ∈ vs, Ev.one u = true) {g o n cap sz : Nat} {xs : List Value} (ho : o + size ≤ n * sz) :
    OpMeets P (opU (Instr.storeAt t (.pointer (some ⟨g, o, none⟩)) v)) (putC g e sz n cap xs o vs) := by
  intro W hpre
  have hrow : (Cont.row e sz n cap xs).sat W.heap[g]? := hpre.use _ (List.mem_singleton_self _)
  have hrun := storeCells_run (P := P) (g := g) (o := o) vs 0 hone (by omega) hrow
  have hsz : v.cells.size = i.size := by rw [hs, ← hl, ← hv]; simp
  have hst : (Instr.storeAt t (.pointer (some ⟨g, o, none⟩)) v).run P W = .ok () (storeAll g (o + 0) vs W) := by
    simp [Instr.storeAt, Instr.sureAddr, storeVar, sizeOf, typeInfo, hi, hsz, hv, hrun]
  obtain ⟨f1, f2, f3, f4, f5⟩ := storeAll_frame g vs o W
  refine ⟨[], _, opU_run hst, rfl, trivial, f1, f2, f3, Nat.le_of_eq f4.symm, fun k _ hno => f5 k (fun h => hno _ (List.mem_singleton_self _) h.symm), fun p hp => ?_, by simp [putC]⟩
  rcases List.mem_singleton.1 hp with rfl
  exact ⟨.inr ⟨_, List.mem_singleton_self _, rfl⟩, storeAll_row vs hrow⟩

end Go.Proofs.Ytjohknpmhlildaa.Ex
