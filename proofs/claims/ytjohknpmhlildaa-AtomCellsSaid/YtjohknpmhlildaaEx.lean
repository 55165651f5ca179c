/-
  The evaluator: numbers of blocks are letters; contracts tell what they leave; blocks known in part.
-/
import Derived.Test.YtjohknpmhlildaaEvL
import Derived.Laws.AppendOwn
namespace Go.Proofs.Ytjohknpmhlildaa.Ex
open Go Go.RowKit
open Ev (F RelF getW one resF resF_eq findB cell_of frozen_of calm pureOf freeAt firstFree freeAt_spec firstFree_spec)

/-- What is known of a block: all; a row of the call's own (n elements of type e, room for cap); some cells from off on. -/
inductive Cont where
  | obj (o : Obj)
  | row (e : TypeId) (size n cap : Nat) (xs : List Value)
  | seg (off : Nat) (xs : List Value)

def Cont.sat : Cont → Option Obj → Prop
  | .obj o, h => h = some o
  | .row e size n cap xs, h => ∃ cur, h = some (.cells cur e (0, 0)) ∧ xs.length = n * size ∧ n ≤ cap ∧ cap ≤ maxLen ∧ cur.size = cap * size ∧ cur.toList.take (n * size) = xs
  | .seg off xs, h => ∃ c t f, h = some (.cells c t f) ∧ ∀ j u, xs[j]? = some u → c.toList[off + j]? = some u

def Cont.at : Cont → Nat → Option Value
  | .obj (.cells c _ _), i => c.toList[i]?
  | .obj _, _ => none
  | .row _ _ _ _ xs, i => xs[i]?
  | .seg off xs, i => if off ≤ i then xs[i - off]? else none

theorem Cont.some_of {ct : Cont} {h : Option Obj} (hs : ct.sat h) : ∃ o, h = some o := by
  cases ct with
  | obj o => exact ⟨o, hs⟩
  | row e size n cap xs => obtain ⟨cur, h, -⟩ := hs; exact ⟨_, h⟩
  | seg off xs => obtain ⟨c, t, f, h, -⟩ := hs; exact ⟨_, h⟩

theorem take_get {α : Type} {l xs : List α} {n i : Nat} {v : α} (h : l.take n = xs) (hv : xs[i]? = some v) : l[i]? = some v := by
  subst h
  rw [List.getElem?_take] at hv
  split at hv
  · exact hv
  · cases hv

theorem Cont.at_spec {ct : Cont} {h : Option Obj} (hs : ct.sat h) {i : Nat} {v : Value} (hv : ct.at i = some v) : ∃ c t f, h = some (.cells c t f) ∧ c[i]? = some v := by
  cases ct with
  | obj o =>
    cases o with
    | cells c t f => exact ⟨c, t, f, hs, by simpa [Cont.at] using hv⟩
    | _ => cases hv
  | row e size n cap xs =>
    obtain ⟨cur, h, -, -, -, -, ht⟩ := hs
    exact ⟨cur, e, (0, 0), h, by simpa using take_get ht hv⟩
  | seg off xs =>
    obtain ⟨c, t, f, h, hc⟩ := hs
    simp only [Cont.at] at hv
    split at hv
    · rename_i hle
      have := hc _ _ hv
      rw [show off + (i - off) = i by omega] at this
      exact ⟨c, t, f, h, by simpa using this⟩
    · cases hv

/-- The cells, whatever else is known. -/
def Cont.asSeg : Cont → Cont
  | .obj (.cells c _ _) => .seg 0 c.toList
  | .row _ _ _ _ xs => .seg 0 xs
  | c => c

theorem Cont.sat_seg {ct : Cont} {h : Option Obj} (hs : ct.sat h) : ct.asSeg.sat h := by
  cases ct with
  | obj o =>
    cases o with
    | cells c t f => exact ⟨c, t, f, hs, fun j u hu => by rw [Nat.zero_add]; exact hu⟩
    | _ => exact hs
  | row e size n cap xs =>
    obtain ⟨cur, h, -, -, -, -, ht⟩ := hs
    exact ⟨cur, e, (0, 0), h, fun j u hu => by rw [Nat.zero_add]; exact take_get ht hu⟩
  | seg off xs => exact hs

/-- What is asked of a block that is at hand. -/
def Cont.view : Cont → Cont → Cont
  | .seg .., c => c.asSeg
  | _, c => c

theorem Cont.sat_view {p c : Cont} {h : Option Obj} (hs : c.sat h) : (p.view c).sat h := by
  cases p with
  | seg off xs => exact Cont.sat_seg hs
  | _ => exact hs

/-- Two things that must be one. -/
inductive Tok where
  | nat (n : Nat)
  | val (v : Value)
  | cont (c : Cont)
  | code (c : Code)

/-- What may come of a piece: whatever numbers and lists come up. -/
inductive T (α : Type) where
  | ret (a : α)
  | fail
  | ask (k : Nat → List Value → T α)
  | same (l r : Tok) (k : T α)
  | need (p : Prop) (k : T α)
  | hyp (p : Prop) (k : T α)

namespace T
variable {α β : Type}
def bind : T α → (α → T β) → T β
  | ret a, f => f a
  | fail, _ => fail
  | ask k, f => ask fun n l => (k n l).bind f
  | same l r k, f => same l r (k.bind f)
  | need p k, f => need p (k.bind f)
  | hyp p k, f => hyp p (k.bind f)

def all (K : α → Prop) : T α → Prop
  | ret a => K a
  | fail => False
  | ask k => ∀ n l, (k n l).all K
  | same l r k => l = r ∧ k.all K
  | need p k => p ∧ k.all K
  | hyp p k => p → k.all K

theorem all_bind (t : T α) (f : α → T β) (K : β → Prop) : (t.bind f).all K ↔ t.all fun a => (f a).all K := by
  induction t with
  | ret a => exact Iff.rfl
  | fail => exact Iff.rfl
  | ask k ih => exact forall_congr' fun n => forall_congr' fun l => ih n l
  | same l r k ih => exact and_congr_right fun _ => ih
  | need p k ih => exact and_congr_right fun _ => ih
  | hyp p k ih => exact imp_congr_right fun _ => ih

theorem all_mono {K K' : α → Prop} (h : ∀ a, K a → K' a) : ∀ t : T α, t.all K → t.all K'
  | ret _, h1 => h _ h1
  | fail, h1 => h1
  | ask k, h1 => fun n l => all_mono h (k n l) (h1 n l)
  | same _ _ k, h1 => ⟨h1.1, all_mono h k h1.2⟩
  | need _ k, h1 => ⟨h1.1, all_mono h k h1.2⟩
  | hyp _ k, h1 => fun hp => all_mono h k (h1 hp)
end T

/-- What came of it, for one stream of numbers and lists. -/
structure R (α : Type) where
  a : α
  l : List Tok
  r : List Tok
  q : List (Bool × Prop)

def holds (X : Prop) : List (Bool × Prop) → Prop
  | [] => X
  | (true, p) :: r => p ∧ holds X r
  | (false, p) :: r => p → holds X r

def T.run {α : Type} : T α → (Nat → Nat) → (Nat → List Value) → Option (R α)
  | .ret a, _, _ => some ⟨a, [], [], []⟩
  | .fail, _, _ => none
  | .ask k, ns, ls => (k (ns 0) (ls 0)).run (fun j => ns (j + 1)) (fun j => ls (j + 1))
  | .same l r k, ns, ls => match k.run ns ls with
    | some x => some { x with l := l :: x.l, r := r :: x.r }
    | none => none
  | .need p k, ns, ls => match k.run ns ls with
    | some x => some { x with q := (true, p) :: x.q }
    | none => none
  | .hyp p k, ns, ls => match k.run ns ls with
    | some x => some { x with q := (false, p) :: x.q }
    | none => none

def consN {α : Type} (a : α) (f : Nat → α) : Nat → α
  | 0 => a
  | j + 1 => f j

theorem all_of_run {α : Type} {K : α → Prop} : ∀ t : T α, (∀ ns ls, ∃ x, t.run ns ls = some x ∧ x.l = x.r ∧ holds (K x.a) x.q) → t.all K
  | .ret a, h => by
    obtain ⟨x, h1, -, h3⟩ := h (fun _ => 0) (fun _ => [])
    injection h1 with h1
    subst h1
    exact h3
  | .fail, h => by
    obtain ⟨x, h1, -⟩ := h (fun _ => 0) (fun _ => [])
    cases h1
  | .ask k, h => fun n l => all_of_run (k n l) fun ns ls => h (consN n ns) (consN l ls)
  | .same l r k, h => by
    have key : ∀ ns ls, ∃ x, k.run ns ls = some x ∧ l = r ∧ x.l = x.r ∧ holds (K x.a) x.q := fun ns ls => by
      obtain ⟨x, h1, h2, h3⟩ := h ns ls
      simp only [T.run] at h1
      split at h1
      · rename_i y hy
        injection h1 with h1
        subst h1
        simp only [List.cons.injEq] at h2
        exact ⟨y, hy, h2.1, h2.2, h3⟩
      · cases h1
    exact ⟨(key (fun _ => 0) (fun _ => [])).elim fun _ h => h.2.1, all_of_run k fun ns ls => (key ns ls).imp fun _ h => ⟨h.1, h.2.2⟩⟩
  | .need p k, h => by
    have key : ∀ ns ls, ∃ x, k.run ns ls = some x ∧ p ∧ x.l = x.r ∧ holds (K x.a) x.q := fun ns ls => by
      obtain ⟨x, h1, h2, h3⟩ := h ns ls
      simp only [T.run] at h1
      split at h1
      · rename_i y hy
        injection h1 with h1
        subst h1
        exact ⟨y, hy, h3.1, h2, h3.2⟩
      · cases h1
    exact ⟨(key (fun _ => 0) (fun _ => [])).elim fun _ h => h.2.1, all_of_run k fun ns ls => (key ns ls).imp fun _ h => ⟨h.1, h.2.2⟩⟩
  | .hyp p k, h => fun hp => all_of_run k fun ns ls => by
      obtain ⟨x, h1, h2, h3⟩ := h ns ls
      simp only [T.run] at h1
      split at h1
      · rename_i y hy
        injection h1 with h1
        subst h1
        exact ⟨y, hy, h2, h3 hp⟩
      · cases h1

/-- A block that is known: its number, what lies there, whether the call may write it. -/
structure Blk where
  nm : Nat
  ct : Cont
  own : Bool

/-- Two entries that may not speak of one block. -/
def Far (p q : Blk) : Prop := (p.own || q.own) = true → p.nm ≠ q.nm
theorem Far.symm {p q : Blk} (h : Far p q) : Far q p := fun ho he => h (by rw [Bool.or_comm]; exact ho) he.symm

structure E where
  L : List Blk
  orc : Option (List Nat)
  tr : List Nat
  ci : Nat
  ri : Nat
  li : Nat
  oi : Nat
  hist : List (Nat × List Value)

def findN : List Blk → Nat → Nat → Option Nat
  | [], _, _ => none
  | p :: L, b, j => match Nat.decEq p.nm b with
    | .isTrue _ => some j
    | .isFalse _ => findN L b (j + 1)

def E.pick (e : E) (b : Nat) : Option (Blk × Nat × E) :=
  match e.orc with
  | none => match findN e.L b 0 with
    | none => none
    | some j => match e.L[j]? with
      | none => none
      | some p => some (p, j, { e with tr := j :: e.tr })
  | some [] => none
  | some (j :: r) => match e.L[j]? with
    | none => none
    | some p => some (p, j, { e with orc := some r })

theorem E.pick_spec {e e' : E} {b j : Nat} {p : Blk} (h : e.pick b = some (p, j, e')) : e.L[j]? = some p ∧ e'.L = e.L := by
  unfold E.pick at h
  split at h
  · split at h
    · cases h
    · split at h
      · cases h
      · rename_i q hq
        injection h with h
        injection h with h1 h2
        injection h2 with h2 h3
        subst h1 h2 h3
        exact ⟨hq, rfl⟩
  · cases h
  · split at h
    · cases h
    · rename_i q hq
      injection h with h
      injection h with h1 h2
      injection h2 with h2 h3
      subst h1 h2 h3
      exact ⟨hq, rfl⟩

/-- The world W: of the blocks of w0 those that are kept as they were; the known ones as e tells. -/
structure Rep (w0 : World) (keep : Nat → Prop) (e : E) (W : World) : Prop where
  os : W.os = w0.os
  tape : W.tape = w0.tape
  output : W.output = w0.output
  size : w0.heap.size ≤ W.heap.size
  old : ∀ k, k < w0.heap.size → keep k → W.heap[k]? = w0.heap[k]?
  blk : ∀ p ∈ e.L, p.ct.sat W.heap[p.nm]? ∧ (p.own = true → p.nm < w0.heap.size → ¬ keep p.nm)
  far : e.L.Pairwise Far

section rep
variable {w0 W : World} {keep : Nat → Prop} {e : E}

theorem Rep.of_eq {e' : E} (h : Rep w0 keep e W) (hL : e'.L = e.L) : Rep w0 keep e' W :=
  ⟨h.os, h.tape, h.output, h.size, h.old, by rw [hL]; exact h.blk, by rw [hL]; exact h.far⟩

theorem Rep.draw (h : Rep w0 keep e W) : Rep w0 keep e { W with drawn := W.drawn + 1 } := ⟨h.os, h.tape, h.output, h.size, h.old, h.blk, h.far⟩

theorem Rep.at (h : Rep w0 keep e W) {j : Nat} {p : Blk} (hj : e.L[j]? = some p) : p.ct.sat W.heap[p.nm]? := (h.blk p (List.mem_of_getElem? hj)).1

theorem Rep.lt (h : Rep w0 keep e W) {p : Blk} (hp : p ∈ e.L) : p.nm < W.heap.size := by
  obtain ⟨o, ho⟩ := Cont.some_of (h.blk p hp).1
  exact (Array.getElem?_eq_some_iff.1 ho).1

theorem Rep.push (h : Rep w0 keep e W) (o : Obj) : ∀ hh, Rep w0 keep { e with L := ⟨W.heap.size, .obj o, true⟩ :: e.L, hist := hh } { W with heap := W.heap.push o } := by
  intro hh
  refine ⟨h.os, h.tape, h.output, by have := h.size; simp; omega, fun k hk hkp => ?_, fun p hp => ?_, ?_⟩
  · have := h.size
    show (W.heap.push o)[k]? = _
    rw [Array.getElem?_push, if_neg (by omega)]
    exact h.old k hk hkp
  · simp only [List.mem_cons] at hp
    rcases hp with rfl | hp
    · refine ⟨?_, fun _ hlt => ?_⟩
      · show (W.heap.push o)[W.heap.size]? = _
        rw [Array.getElem?_push, if_pos rfl]
      · have := h.size
        simp only at hlt
        omega
    · have hlt := h.lt hp
      obtain ⟨h1, h2⟩ := h.blk p hp
      refine ⟨?_, h2⟩
      show p.ct.sat (W.heap.push o)[p.nm]?
      rw [Array.getElem?_push, if_neg (by omega)]
      exact h1
  · simp only [List.pairwise_cons]
    refine ⟨fun q hq _ he => ?_, h.far⟩
    have := h.lt hq
    simp only at he
    omega

theorem far_ne {L : List Blk} (h : L.Pairwise Far) {i j : Nat} {p q : Blk} (hi : L[i]? = some p) (hj : L[j]? = some q) (hne : i ≠ j) : Far p q := by
  obtain ⟨hi1, hi2⟩ := List.getElem?_eq_some_iff.1 hi
  obtain ⟨hj1, hj2⟩ := List.getElem?_eq_some_iff.1 hj
  rcases Nat.lt_or_gt_of_ne hne with hlt | hlt
  · have := List.pairwise_iff_getElem.1 h i j hi1 hj1 hlt
    rwa [hi2, hj2] at this
  · have := List.pairwise_iff_getElem.1 h j i hj1 hi1 hlt
    rw [hi2, hj2] at this
    exact this.symm

/-- One of the known blocks holds something else. -/
theorem Rep.set {W' : World} (h : Rep w0 keep e W) {j : Nat} {p : Blk} (hj : e.L[j]? = some p) (hown : p.own = true) (ct : Cont)
    (h1 : W'.os = W.os) (h2 : W'.tape = W.tape) (h3 : W'.output = W.output) (h4 : W'.heap.size = W.heap.size) (h5 : ∀ k, k ≠ p.nm → W'.heap[k]? = W.heap[k]?) (h6 : ct.sat W'.heap[p.nm]?) :
    Rep w0 keep { e with L := e.L.set j ⟨p.nm, ct, true⟩ } W' := by
  have hp := h.blk p (List.mem_of_getElem? hj)
  obtain ⟨hjl, hje⟩ := List.getElem?_eq_some_iff.1 hj
  refine ⟨h1.trans h.os, h2.trans h.tape, h3.trans h.output, by rw [h4]; exact h.size, fun k hk hkp => ?_, fun q hq => ?_, ?_⟩
  · rw [h5 k (fun he => by subst he; exact hp.2 hown hk hkp)]; exact h.old k hk hkp
  · obtain ⟨i, hi⟩ := List.mem_iff_getElem?.1 hq
    rw [List.getElem?_set] at hi
    split at hi
    · rename_i hij
      injection hi with hi
      subst hi
      exact ⟨h6, fun _ => hp.2 hown⟩
    · rename_i hij
      have hb := h.blk q (List.mem_of_getElem? hi)
      refine ⟨?_, hb.2⟩
      rw [h5 q.nm (far_ne h.far hi hj (Ne.symm hij) (by rw [hown, Bool.or_true]))]
      exact hb.1
  · rw [List.pairwise_iff_getElem]
    intro i k hi hk hik
    have hi' : i < e.L.length := by simpa using hi
    have hk' : k < e.L.length := by simpa using hk
    have h0 := List.pairwise_iff_getElem.1 h.far i k hi' hk' hik
    simp only [List.getElem_set]
    have hown' : e.L[j].own = true := by rw [hje]; exact hown
    have hnm : p.nm = e.L[j].nm := by rw [hje]
    split
    · rename_i e1
      subst e1
      split
      · omega
      · intro _
        have h1 := h0 (by rw [hown']; rfl)
        rw [← hnm] at h1
        exact h1
    · split
      · rename_i e1
        subst e1
        intro _
        have h1 := h0 (by rw [hown', Bool.or_true])
        rw [← hnm] at h1
        exact h1
      · exact h0

theorem Rep.below (h : Rep w0 (fun _ => True) e W) : Below w0.heap.size w0 W := ⟨h.os, h.tape, h.output, h.size, fun k hk => h.old k hk trivial⟩

theorem Rep.sub {L : List Blk} (h : Rep w0 keep e W) (hs : List.Sublist L e.L) : Rep w0 keep { e with L := L } W :=
  ⟨h.os, h.tape, h.output, h.size, h.old, fun p hp => h.blk p (hs.subset hp), h.far.sublist hs⟩
end rep

/-- What a piece reads; what it uses up; what is known behind it (new blocks, or such as were used). -/
structure MemC where
  rd : List (Nat × Cont)
  use : List (Nat × Cont)
  m : Nat
  hyp : List (Nat × List Value) → Prop
  nw : List (Nat × List Value) → List (Nat × Cont)

structure MemC.pre (c : MemC) (W : World) : Prop where
  rd : ∀ p ∈ c.rd, p.2.sat W.heap[p.1]?
  use : ∀ p ∈ c.use, p.2.sat W.heap[p.1]?
  nodup : (c.use.map (·.1)).Nodup
  apart : ∀ p ∈ c.rd, ∀ q ∈ c.use, p.1 ≠ q.1

structure MemC.post (c : MemC) (W W' : World) (ns : List (Nat × List Value)) : Prop where
  len : ns.length = c.m
  hyp : c.hyp ns
  os : W'.os = W.os
  tape : W'.tape = W.tape
  output : W'.output = W.output
  size : W.heap.size ≤ W'.heap.size
  old : ∀ k, k < W.heap.size → (∀ p ∈ c.use, p.1 ≠ k) → W'.heap[k]? = W.heap[k]?
  nw : ∀ p ∈ c.nw ns, (W.heap.size ≤ p.1 ∨ ∃ q ∈ c.use, q.1 = p.1) ∧ p.2.sat W'.heap[p.1]?
  nodup : ((c.nw ns).map (·.1)).Nodup

/-- A call that is met by its contract. -/
structure CallC where
  f : FuncId
  args : Array Value
  mem : MemC
  v : List (Nat × List Value) → Value

def Meets (P : Program) (c : CallC) : Prop :=
  ∀ W : World, c.mem.pre W → Calls P c.f c.args W fun en W' => ∃ ns, en = .returned (c.v ns) ∧ c.mem.post W W' ns

/-- A loop, or a region that draws its order, that is met by what was shown of it: the slots that it is told of; how it ends; what slots hold then. -/
structure LoopC where
  c : Code
  n : Nat
  sl : List (Nat × Value)
  mem : MemC
  x : Exit
  out : List (Nat × List Value) → List (Nat × Value)

def MeetsL (P : Program) (c : LoopC) : Prop :=
  ∀ (a : Act) (W : World), Ev.Known c.n c.sl a → c.mem.pre W → c.c.wp P (fun x a' W' => x = c.x ∧ ∃ ns, Ev.Known c.n (c.out ns) a' ∧ c.mem.post W W' ns) a W

/-- One operation that is met by what was shown of it. -/
structure OpC where
  mem : MemC
  v : List (Nat × List Value) → Value
  skip : Bool

def OpC.next (c : OpC) (ns : List (Nat × List Value)) : Next := match c.skip with
  | true => .skip
  | false => .value (c.v ns)

def OpC.val (c : OpC) (ns : List (Nat × List Value)) : Value := match c.skip with
  | true => undef
  | false => c.v ns

def OpMeets (P : Program) (s : Sem Next) (c : OpC) : Prop :=
  ∀ W : World, c.mem.pre W → ∃ ns W', s.run P W = .ok (c.next ns) W' ∧ c.mem.post W W' ns

/-- What has been asked, the latest first. -/
abbrev Hist := List (Nat × List Value)

/-- Which calls are met by a contract, and by which, one after the other; of which slots the value is given anew; for which slots the loads are given; which operations are given (ox: their value alone; oc: by a contract); in which functions the loops are met (and which regions), and by what. -/
structure Ctx where
  isC : FuncId → Bool
  cl : List (Hist → CallC)
  fx : FuncId → Tmp → Bool
  gl : FuncId → Tmp → Bool
  rl : List (Hist → Value)
  ox : FuncId → Nat → Bool
  oc : FuncId → Nat → Bool
  ol : List (Hist → OpC)
  lf : FuncId → Bool
  lr : FuncId → Nat → Bool
  lp : List (Hist → LoopC)
  dp : FuncId → Nat → List Nat

structure Ctx.holds (P : Program) (S : Ctx) : Prop where
  cl : ∀ c ∈ S.cl, ∀ h, Meets P (c h)
  lp : ∀ c ∈ S.lp, ∀ h, MeetsL P (c h)

variable (P : Program) (S : Ctx)

/-- A computation, over the known memory. -/
def lrun {α : Type} (gv : Bool) : Sem α → E → T (α × E)
  | .pure a, e => .ret (a, e)
  | .load _ a k, e => match e.pick a.block with
    | some (⟨n, ct, _⟩, _, e') => match a.spot with
      | some _ => .fail
      | none => .same (.nat a.block) (.nat n) (match gv with
        | false => match ct.at a.off with
          | some v => lrun gv (k v) e'
          | none => .fail
        | true => match S.rl[e'.ri]? with
          | some v => .need (ct.at a.off = some (v e'.hist)) (lrun gv (k (v e'.hist)) { e' with ri := e'.ri + 1 })
          | none => .fail)
    | none => .fail
  | .store _ a v k, e => match one v with
    | false => .fail
    | true => match e.pick a.block with
      | some (⟨n, .obj (.cells c t (lo, hi)), true⟩, j, e') => match a.spot with
        | some _ => .fail
        | none => match c.toList[a.off]?, (decide (lo ≤ a.off) && decide (a.off < hi)) with
          | some _, false => .same (.nat a.block) (.nat n) (lrun gv k { e' with L := e'.L.set j ⟨n, .obj (.cells (c.setIfInBounds a.off v) t (lo, hi)), true⟩ })
          | _, _ => .fail
      | some (⟨n, .row t size m cap xs, true⟩, j, e') => match a.spot with
        | some _ => .fail
        | none => match xs[a.off]? with
          | some _ => .same (.nat a.block) (.nat n) (lrun gv k { e' with L := e'.L.set j ⟨n, .row t size m cap (xs.set a.off v), true⟩ })
          | none => .fail
      | _ => .fail
  | .new o k, e => .ask fun n l => lrun gv (k n) { e with L := ⟨n, .obj o, true⟩ :: e.L, hist := (n, l) :: e.hist }
  | .shape r k, e => match e.pick r with
    | some (⟨n, .obj (.cells c t _), _⟩, _, e') => .same (.nat r) (.nat n) (lrun gv (k (some (t, c.size))) e')
    | some (⟨n, .row t size _ cap _, _⟩, _, e') => .same (.nat r) (.nat n) (lrun gv (k (some (t, cap * size))) e')
    | _ => .fail
  | .freeze _ _ _, _ => .fail
  | .frozen a k, e => match e.pick a.block with
    | some (⟨n, .obj (.cells _ _ (lo, hi)), _⟩, _, e') => .same (.nat a.block) (.nat n) (lrun gv (k (decide (lo ≤ a.off) && decide (a.off < hi))) e')
    | some (⟨n, .row _ _ _ _ _, _⟩, _, e') => .same (.nat a.block) (.nat n) (lrun gv (k false) e')
    | _ => .fail
  | .getObj r k, e => match e.pick r with
    | some (⟨_, .obj (.cells ..), _⟩, _, _) => .fail
    | some (⟨n, .obj o, _⟩, _, e') => .same (.nat r) (.nat n) (lrun gv (k o) e')
    | _ => .fail
  | .setObj r o k, e => match e.pick r with
    | some (⟨_, .obj (.cells ..), _⟩, _, _) => .fail
    | some (⟨n, .obj _, true⟩, j, e') => .same (.nat r) (.nat n) (lrun gv k { e' with L := e'.L.set j ⟨n, .obj o, true⟩ })
    | _ => .fail
  | .choose q k, e => match q.forced with
    | true => lrun gv (k 0) e
    | false => .fail
  | .sys _ _, _ => .fail
  | .program k, e => lrun gv (k P) e
  | .mark _ k, e => lrun gv k e
  | .halt _, _ => .fail

theorem tok_nat {a b : Nat} (h : Tok.nat a = Tok.nat b) : a = b := by injection h
theorem tok_val {a b : Value} (h : Tok.val a = Tok.val b) : a = b := by injection h
theorem tok_cont {a b : Cont} (h : Tok.cont a = Tok.cont b) : a = b := by injection h

theorem cell_at {W : World} {a : Addr} {n : Nat} {ct : Cont} {v : Value} (hb : a.block = n) (hs : ct.sat W.heap[n]?) (hp : a.spot = none) (hv : ct.at a.off = some v) : W.cell? a = some v := by
  obtain ⟨c, t, f, h, hc⟩ := Cont.at_spec hs hv
  rw [cell_of hb h hp]
  exact hc

theorem lrun_sound {w0 : World} {keep : Nat → Prop} {α : Type} (gv : Bool) (s : Sem α) : ∀ (e : E) (W : World) (K : α × E → Prop), (lrun P S gv s e).all K → Rep w0 keep e W →
    ∃ x e' W', s.run P W = .ok x W' ∧ Rep w0 keep e' W' ∧ K (x, e') := by
  induction s with
  | pure a => intro e W K h hr; exact ⟨a, e, W, rfl, hr, h⟩
  | load m a k ih =>
    intro e W K h hr
    simp only [lrun] at h
    split at h
    · rename_i n ct ow j e1 hp
      obtain ⟨hj, hL⟩ := E.pick_spec hp
      split at h
      · exact h.elim
      · rename_i hs
        obtain ⟨hb, h⟩ := h
        have hb := tok_nat hb
        have hat := hr.at hj
        split at h
        · split at h
          · rename_i v hcv
            obtain ⟨x, e', W', h1, h2⟩ := ih v _ W K h (hr.of_eq hL)
            refine ⟨x, e', W', ?_, h2⟩
            simp only [Sem.run, cell_at hb hat hs hcv]
            exact h1
          · exact h.elim
        · split at h
          · rename_i v hcv
            obtain ⟨hcv, h⟩ := h
            obtain ⟨x, e', W', h1, h2⟩ := ih _ _ W K h (hr.of_eq hL)
            refine ⟨x, e', W', ?_, h2⟩
            simp only [Sem.run, cell_at hb hat hs hcv]
            exact h1
          · exact h.elim
    · exact h.elim
  | store m a v k ih =>
    intro e W K h hr
    simp only [lrun] at h
    split at h
    · exact h.elim
    · rename_i hone
      split at h
      · rename_i n c t lo hi j e1 hp
        obtain ⟨hj, hL⟩ := E.pick_spec hp
        split at h
        · exact h.elim
        · rename_i hs
          split at h
          · rename_i u hcv hfz
            obtain ⟨hb, h⟩ := h
            have hb := tok_nat hb
            have hat : W.heap[n]? = some (.cells c t (lo, hi)) := hr.at hj
            have hcell : W.cell? a = some u := by rw [cell_of hb hat hs]; simpa using hcv
            have hfz' : W.frozen? a = false := by rw [frozen_of hb hat]; exact hfz
            have hr1 : Rep w0 keep e1 W := hr.of_eq hL
            have hset : Rep w0 keep { e1 with L := e1.L.set j ⟨n, .obj (.cells (c.setIfInBounds a.off v) t (lo, hi)), true⟩ } (W.setCell a v) := by
              refine hr1.set (p := ⟨n, .obj (.cells c t (lo, hi)), true⟩) (by rw [hL]; exact hj) rfl _ rfl rfl rfl (by simp [World.setCell]) (fun k hk => ?_) ?_
              · simp only [World.setCell, Array.getElem?_modify]
                rw [if_neg (by rw [hb]; exact fun h => hk h.symm)]
              · show (W.setCell a v).heap[n]? = _
                simp only [World.setCell, Array.getElem?_modify, hb, if_true]
                rw [hat]
                simp [hs]
            obtain ⟨x, e', W', h1, h2⟩ := ih _ _ K h hset
            refine ⟨x, e', W', ?_, h2⟩
            cases v <;> first | (simp [one] at hone; done) | (simp only [Sem.run, hcell, hfz']; exact h1)
          · exact h.elim
      · rename_i n t size m' cap xs j e1 hp
        obtain ⟨hj, hL⟩ := E.pick_spec hp
        split at h
        · exact h.elim
        · rename_i hs
          split at h
          · rename_i u hcv
            obtain ⟨hb, h⟩ := h
            have hb := tok_nat hb
            obtain ⟨cur, hat, hlen, hnc, hcm, hcs, htk⟩ : Cont.sat (.row t size m' cap xs) W.heap[n]? := hr.at hj
            have hcu : cur.toList[a.off]? = some u := take_get htk hcv
            have hcell : W.cell? a = some u := by rw [cell_of hb hat hs]; simpa using hcu
            have hfz' : W.frozen? a = false := by rw [frozen_of hb hat]; simp
            have hr1 : Rep w0 keep e1 W := hr.of_eq hL
            have hset : Rep w0 keep { e1 with L := e1.L.set j ⟨n, .row t size m' cap (xs.set a.off v), true⟩ } (W.setCell a v) := by
              refine hr1.set (p := ⟨n, .row t size m' cap xs, true⟩) (by rw [hL]; exact hj) rfl _ rfl rfl rfl (by simp [World.setCell]) (fun k hk => ?_) ⟨cur.setIfInBounds a.off v, ?_, by simpa using hlen, hnc, hcm, by simpa using hcs, ?_⟩
              · simp only [World.setCell, Array.getElem?_modify]
                rw [if_neg (by rw [hb]; exact fun h => hk h.symm)]
              · simp only [World.setCell, Array.getElem?_modify, hb, if_true]
                rw [hat]
                simp [hs]
              · rw [Array.toList_setIfInBounds, ← htk, List.take_set]
            obtain ⟨x, e', W', h1, h2⟩ := ih _ _ K h hset
            refine ⟨x, e', W', ?_, h2⟩
            cases v <;> first | (simp [one] at hone; done) | (simp only [Sem.run, hcell, hfz']; exact h1)
          · exact h.elim
      · exact h.elim
  | new o k ih =>
    intro e W K h hr
    obtain ⟨x, e', W', h1, h2⟩ := ih _ _ _ K (h W.heap.size []) (hr.push o _)
    exact ⟨x, e', W', h1, h2⟩
  | shape r k ih =>
    intro e W K h hr
    simp only [lrun] at h
    split at h
    · rename_i n c t f ow j e1 hp
      obtain ⟨hj, hL⟩ := E.pick_spec hp
      obtain ⟨hb, h⟩ := h
      have hb := tok_nat hb
      obtain ⟨x, e', W', h1, h2⟩ := ih _ _ W K h (hr.of_eq hL)
      refine ⟨x, e', W', ?_, h2⟩
      have hat : W.heap[n]? = some (.cells c t f) := hr.at hj
      have : W.shape? r = some (t, c.size) := by subst hb; simp [World.shape?, hat]
      simp only [Sem.run, this]
      exact h1
    · rename_i n t size m' cap xs ow j e1 hp
      obtain ⟨hj, hL⟩ := E.pick_spec hp
      obtain ⟨hb, h⟩ := h
      have hb := tok_nat hb
      obtain ⟨x, e', W', h1, h2⟩ := ih _ _ W K h (hr.of_eq hL)
      refine ⟨x, e', W', ?_, h2⟩
      obtain ⟨cur, hat, -, -, -, hcs, -⟩ : Cont.sat (.row t size m' cap xs) W.heap[n]? := hr.at hj
      have : W.shape? r = some (t, cap * size) := by subst hb; simp [World.shape?, hat, hcs]
      simp only [Sem.run, this]
      exact h1
    · exact h.elim
  | freeze a n k ih => intro e W K h; exact h.elim
  | frozen a k ih =>
    intro e W K h hr
    simp only [lrun] at h
    split at h
    · rename_i n c t lo hi ow j e1 hp
      obtain ⟨hj, hL⟩ := E.pick_spec hp
      obtain ⟨hb, h⟩ := h
      have hb := tok_nat hb
      obtain ⟨x, e', W', h1, h2⟩ := ih _ _ W K h (hr.of_eq hL)
      refine ⟨x, e', W', ?_, h2⟩
      have hat : W.heap[n]? = some (.cells c t (lo, hi)) := hr.at hj
      simp only [Sem.run, frozen_of hb hat]
      exact h1
    · rename_i n t size m' cap xs ow j e1 hp
      obtain ⟨hj, hL⟩ := E.pick_spec hp
      obtain ⟨hb, h⟩ := h
      have hb := tok_nat hb
      obtain ⟨x, e', W', h1, h2⟩ := ih _ _ W K h (hr.of_eq hL)
      refine ⟨x, e', W', ?_, h2⟩
      obtain ⟨cur, hat, -⟩ : Cont.sat (.row t size m' cap xs) W.heap[n]? := hr.at hj
      have : W.frozen? a = false := by rw [frozen_of hb hat]; simp
      simp only [Sem.run, this]
      exact h1
    · exact h.elim
  | getObj r k ih =>
    intro e W K h hr
    simp only [lrun] at h
    split at h
    · exact h.elim
    · rename_i n o ow j e1 hno hp
      obtain ⟨hj, hL⟩ := E.pick_spec hp
      obtain ⟨hb, h⟩ := h
      have hb := tok_nat hb
      obtain ⟨x, e', W', h1, h2⟩ := ih _ _ W K h (hr.of_eq hL)
      refine ⟨x, e', W', ?_, h2⟩
      have hat : W.heap[n]? = some o := hr.at hj
      subst hb
      simp only [Sem.run, hat]
      cases o <;> first | exact h1 | exact (hno _ _ _ _ _ _ _ hp).elim
    · exact h.elim
  | setObj r o k ih =>
    intro e W K h hr
    simp only [lrun] at h
    split at h
    · exact h.elim
    · rename_i n o1 j e1 hno hp
      obtain ⟨hj, hL⟩ := E.pick_spec hp
      obtain ⟨hb, h⟩ := h
      have hb := tok_nat hb
      have hat : W.heap[n]? = some o1 := hr.at hj
      have hr1 : Rep w0 keep e1 W := hr.of_eq hL
      have hlt : r < W.heap.size := by
        have := hr.lt (List.mem_of_getElem? hj)
        rw [hb]; exact this
      have hset : Rep w0 keep { e1 with L := e1.L.set j ⟨n, .obj o, true⟩ } { W with heap := W.heap.setIfInBounds r o } := by
        refine hr1.set (p := ⟨n, .obj o1, true⟩) (by rw [hL]; exact hj) rfl _ rfl rfl rfl (by simp) (fun k hk => ?_) ?_
        · simp only [Array.getElem?_setIfInBounds]
          rw [if_neg (by rw [hb]; exact fun h => hk h.symm)]
        · show (W.heap.setIfInBounds r o)[n]? = some o
          simp only [Array.getElem?_setIfInBounds, ← hb, if_true, hlt]
      obtain ⟨x, e', W', h1, h2⟩ := ih _ _ K h hset
      refine ⟨x, e', W', ?_, h2⟩
      subst hb
      simp only [Sem.run, hat]
      cases o1 <;> first | exact h1 | exact (hno _ _ _ _ _ _ _ hp).elim
    · exact h.elim
  | choose q k ih =>
    intro e W K h hr
    simp only [lrun] at h
    split at h
    · rename_i hf
      obtain ⟨x, e', W', h1, h2⟩ := ih _ _ _ K h hr
      refine ⟨x, e', W', ?_, h2⟩
      simp only [Sem.run, hf, if_true]
      exact h1
    · exact h.elim
  | sys c k ih => intro e W K h; exact h.elim
  | program k ih => intro e W K h hr; exact ih _ _ _ K h hr
  | mark m k ih => intro e W K h hr; exact ih _ _ K h hr
  | halt h => intro e W K h; exact h.elim

end Go.Proofs.Ytjohknpmhlildaa.Ex
